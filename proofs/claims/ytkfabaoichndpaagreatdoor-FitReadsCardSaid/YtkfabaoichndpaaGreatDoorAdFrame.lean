/- What the abstract evaluator does not write stays as it was. -/
import Derived.Test.YtkfabaoichndpaaGreatDoorAdExec
namespace Go.Ad
def AFr (B B':Heap) (D:List Nat):Prop:=B.length<=B'.length/\∀ b,b < B.length->b ∉ D->B'[b]?=B[b]?
theorem AFr.refl (B:Heap):AFr B B []:=⟨Nat.le_refl _,fun _ _ _=>rfl⟩
theorem AFr.trans {B B1 B2:Heap} {D D':List Nat} (h:AFr B B1 D) (h':AFr B1 B2 D'):AFr B B2 (D++D') :=
 ⟨Nat.le_trans h.1 h'.1,fun b hb hD=>(h'.2 b (Nat.lt_of_lt_of_le hb h.1) fun hm=>hD (by simp [hm])).trans (h.2 b hb fun hm=>hD (by simp [hm]))⟩
theorem AFr.push (B:Heap) (o:AObj):AFr B (B++[o]) [] :=
 ⟨by simp,fun b hb _=>List.getElem?_append_left hb⟩
theorem AFr.set (B:Heap) (b:Nat) (o:AObj):AFr B (B.set b o) [b] :=
 ⟨by simp,fun x _ hx=>by rw [List.getElem?_set]; simp at hx; rw [if_neg (Ne.symm hx)]⟩
variable {P:Program} {B:Heap}
theorem Y6 {o:Option AV} {v:AV} {B':Heap} {D:List Nat} (h:only B o=some (v,B',D)):AFr B B' D:=by
 unfold only at h
 simp only [Option.map_eq_some_iff,pI] at h
 obtain ⟨_,_,_,rfl,rfl⟩:=h
 exact .refl _
theorem F2v {b o:Nat} {vs:List AV} {B':Heap} (h:st B b o vs=some B'):AFr B B' [b]:=by
 unfold st at h
 split at h
 ·split at h
  ·cases h; exact .set _ _ _
  ·simp at h
 ·simp at h
theorem D2g {ts:Array TypeId} {s x:AV} {v:AV} {B':Heap} {D:List Nat} (h:M8 P B ts s x=some (v,B',D)):AFr B B' D:=by
 unfold M8 at h
 (repeat' split at h) <;> first
  | (simp at h; done)
  | (simp only [sI,pI] at h; obtain ⟨rfl,rfl,rfl⟩:=h; first | exact .refl _ | exact .push _ _ | exact .set _ _ _ | exact (AFr.set _ _ _).trans (.push _ _))
theorem E8v {ts:Array TypeId} {s x:AV} {v:AV} {B':Heap} {D:List Nat} (h:B8z P B ts s x=some (v,B',D)):AFr B B' D:=by
 unfold B8z at h
 (repeat' split at h) <;> first
  | (simp at h; done)
  | exact Y6 h
  | (simp only [Option.map_eq_some_iff,pI] at h; obtain ⟨_,h1,_,rfl,rfl⟩:=h; exact F2v h1)
theorem E3k {ts:Array TypeId} {s:AV} {v:AV} {B':Heap} {D:List Nat} (h:B7y P B ts s=some (v,B',D)):AFr B B' D:=by
 unfold B7y at h
 (repeat' split at h) <;> first
  | (simp at h; done)
  | exact Y6 h
  | (simp only [Option.map_eq_some_iff,pI] at h; obtain ⟨_,h1,_,rfl,rfl⟩:=h; exact F2v h1)
theorem B5m {ts:Array TypeId} {p n v:AV} {B':Heap} {D:List Nat} (h:Q6 P B ts p n=some (v,B',D)):AFr B B' D:=by
 unfold Q6 at h
 (repeat' split at h) <;> first
  | (simp at h; done)
  | exact Y6 h
  | (simp only [Option.map_eq_some_iff,pI] at h; obtain ⟨_,_,_,rfl,rfl⟩:=h; exact .set _ _ _)
theorem D0d {b:Builtin} {ts:Array TypeId} {args:List AV} {v:AV} {B':Heap} {D:List Nat} (h:A2h P B b ts args=some (v,B',D)):AFr B B' D:=by
 unfold A2h at h
 split at h <;> first | exact D2g h | exact E8v h | exact E3k h | exact Y6 h | exact B5m h | (simp at h; done)
theorem C1w {t:TypeId} {n:Nat} {ps:List (Nat × AV)} {v:AV} {B':Heap} {D:List Nat} (h:A2n P B t n ps=some (v,B',D)):AFr B B' D:=by
 unfold A2n at h
 (repeat' split at h) <;> first
  | (simp at h; done)
  | (simp only [sI,pI] at h; obtain ⟨rfl,rfl,rfl⟩:=h; exact .push _ _)
theorem C2l {t:TypeId} {x y v:AV} {B':Heap} {D:List Nat} (h:A0m P B t x y=some (v,B',D)):AFr B B' D:=by
 unfold A0m at h
 (repeat' split at h) <;> first
  | (simp at h; done)
  | (simp only [sI,pI] at h; obtain ⟨rfl,rfl,rfl⟩:=h; exact .push _ _)
theorem C9k {s d:TypeId} {x v:AV} {B':Heap} {D:List Nat} (h:A7v P B s d x=some (v,B',D)):AFr B B' D:=by
 unfold A7v at h
 (repeat' split at h) <;> first
  | (simp at h; done)
  | exact Y6 h
  | (simp only [sI,pI] at h; obtain ⟨rfl,rfl,rfl⟩:=h; exact .push _ _)
theorem E3q {t:TypeId} {p x v:AV} {B':Heap} {D:List Nat} (h:A4j P B t p x=some (v,B',D)):AFr B B' D:=by
 unfold A4j at h
 (repeat' split at h) <;> first
  | (simp at h; done)
  | (simp only [Option.map_eq_some_iff,pI] at h; obtain ⟨_,h1,_,rfl,rfl⟩:=h; exact F2v h1)
theorem C9x {x:Option AV} {v:AV} {B':Heap} {D:List Nat} (h:A8u B x=some (v,B',D)):AFr B B' D:=by
 unfold A8u at h
 split at h
 ·simp only [sI,pI] at h; obtain ⟨rfl,rfl,rfl⟩:=h; exact .push _ _
 ·cases h
theorem C2d {t:TypeId} {m k x v:AV} {B':Heap} {D:List Nat} (h:A1x P B t m k x=some (v,B',D)):AFr B B' D:=by
 unfold A1x at h
 (repeat' split at h) <;> first
  | (simp at h; done)
  | (simp only [sI,pI] at h; obtain ⟨rfl,rfl,rfl⟩:=h; exact .set _ _ _)
theorem F6o {ρ:Operand->AV} {op:Op} {v:AV} {B':Heap} {D:List Nat} (h:V5 P ρ B op=some (v,B',D)):AFr B B' D:=by
 unfold V5 at h
 split at h <;> first
  | exact Y6 h
  | exact C1w h
  | exact C2l h
  | exact C9k h
  | exact D0d h
  | exact C9x h
  | exact C2d h
  | (simp at h; done)
  | (split at h <;> first | exact Y6 h | exact E3q h | (simp at h; done) | (simp only [sI,pI] at h; obtain ⟨rfl,rfl,rfl⟩:=h; exact .push _ _))
  | (simp only [Option.map_eq_some_iff,pI] at h; obtain ⟨_,_,_,rfl,rfl⟩:=h; exact .push _ _)
theorem D1d {t tx:TypeId} {b n:Nat} {x:AV} {c:Bool} {v:AV} {B':Heap} {D:List Nat} (h:A8i P B t tx b n x=some (c,v,B',D)):AFr B B' D:=by
 unfold A8i at h
 (repeat' split at h) <;> first
  | (simp at h; done)
  | (simp only [sI,pI] at h; obtain ⟨_,_,rfl,rfl⟩:=h; exact (AFr.set _ _ _).trans (.push _ _))
theorem C9s {t tx:TypeId} {b n:Nat} {x:AV} {c:Bool} {v:AV} {B':Heap} {D:List Nat} (h:A8n P B t tx b n x=some (c,v,B',D)):AFr B B' D:=by
 unfold A8n at h
 (repeat' split at h) <;> first
  | (simp at h; done)
  | (simp only [sI,pI] at h; obtain ⟨_,_,rfl,rfl⟩:=h; exact (AFr.set _ _ _).trans (.push _ _))
theorem D1j {ts:Array TypeId} {b n:Nat} {m:AV} {c:Bool} {v:AV} {B':Heap} {D:List Nat} (h:A8g P B ts b n m=some (c,v,B',D)):AFr B B' D:=by
 unfold A8g at h
 (repeat' split at h) <;> first
  | (simp at h; done)
  | (simp only [sI,pI] at h; obtain ⟨_,_,rfl,rfl⟩:=h; exact .set _ _ _)
theorem F0d {ρ:Operand->AV} {op:Op} {c:Bool} {v:AV} {B':Heap} {D:List Nat} (h:N7 P ρ B op=some (c,v,B',D)):AFr B B' D:=by
 unfold N7 at h
 split at h
 ·split at h
  ·simp only [Option.map_eq_some_iff,pI] at h; obtain ⟨_,_,_,_,rfl,rfl⟩:=h; exact .refl _
  ·cases h
 ·split at h
  ·split at h
   ·simp only [sI,pI] at h; obtain ⟨_,_,rfl,rfl⟩:=h; exact .refl _
   ·cases h
  ·cases h
 ·split at h
  ·split at h
   ·exact C9s h
   ·exact D1d h
  ·cases h
 ·split at h
  ·simp only [sI,pI] at h; obtain ⟨_,_,rfl,rfl⟩:=h; exact .refl _
  ·cases h
 ·split at h
  ·exact D1j h
  ·cases h
 ·split at h
  ·split at h
   ·split at h
    ·simp only [sI,pI] at h; obtain ⟨_,_,rfl,rfl⟩:=h; exact .refl _
    ·cases h
   ·cases h
  ·cases h
 ·simp only [Option.map_eq_some_iff,pI] at h; obtain ⟨_,_,_,_,rfl,rfl⟩:=h; exact .refl _
theorem B8f {t:TypeId} {cs:List AV} {c:Bool} {v:AV} {B':Heap} {D:List Nat} (h:A5e P B t cs=some (c,v,B',D)):AFr B B' D:=by
 unfold A5e at h
 (repeat' split at h) <;> first
  | (simp at h; done)
  | (simp only [sI,pI] at h; obtain ⟨_,_,rfl,rfl⟩:=h; exact .push _ _)
theorem C7m {t:TypeId} {x p:AV} {c:Bool} {v:AV} {B':Heap} {D:List Nat} (h:A5x P B t x p=some (c,v,B',D)):AFr B B' D:=by
 unfold A5x at h
 (repeat' split at h) <;> first
  | (simp at h; done)
  | (simp only [sI,pI] at h; obtain ⟨_,_,rfl,rfl⟩:=h; exact .set _ _ _)
theorem D1r {ts:Array TypeId} {d x:AV} {c:Bool} {v:AV} {B':Heap} {D:List Nat} (h:A8a P B ts d x=some (c,v,B',D)):AFr B B' D:=by
 unfold A8a at h
 (repeat' split at h) <;> first
  | (simp at h; done)
  | (simp only [sI,pI] at h; obtain ⟨_,_,rfl,rfl⟩:=h; exact .set _ _ _)
theorem D2d {t:TypeId} {l n:AV} {c:Bool} {v:AV} {B':Heap} {D:List Nat} (h:A8s P B t l n=some (c,v,B',D)):AFr B B' D:=by
 unfold A8s at h
 (repeat' split at h) <;> first
  | (simp at h; done)
  | (simp only [sI,pI] at h; obtain ⟨_,_,rfl,rfl⟩:=h; exact .push _ _)
theorem F4m {ρ:Operand->AV} {op:Op} {c:Bool} {v:AV} {B':Heap} {D:List Nat} (h:U7 P ρ B op=some (c,v,B',D)):AFr B B' D:=by
 unfold U7 at h
 (repeat' split at h) <;> first
  | (simp at h; done)
  | exact C7m h
  | exact B8f h
  | exact D1r h
  | exact D2d h
  | (simp only [Option.map_eq_some_iff,pI] at h; obtain ⟨_,_,_,_,rfl,rfl⟩:=h; exact .refl _)
  | (simp only [sI,pI] at h; obtain ⟨_,_,rfl,rfl⟩:=h; exact .refl _)
  | (simp only [Option.bind_eq_some_iff] at h; obtain ⟨_,_,h⟩:=h; exact B8f h)
theorem F8y {ρ:Operand->AV} {op:Op} {c:Bool} {v:AV} {B':Heap} {D:List Nat} (h:atl P ρ B op=some (c,v,B',D)):AFr B B' D:=by
 unfold atl at h
 (repeat' split at h) <;> first
  | (simp at h; done)
  | (simp only [sI,pI] at h; obtain ⟨_,_,rfl,rfl⟩:=h; first | exact .refl _ | exact .set _ _ _ | exact (AFr.set _ _ _).trans (.push _ _))
theorem G3v {ρ:Operand->AV} {op:Op} {c:Bool} {v:AV} {B':Heap} {D:List Nat} (h:aqs P ρ B op=some (c,v,B',D)):AFr B B' D:=by
 unfold aqs at h
 (repeat' split at h) <;> first
  | (simp at h; done)
  | (simp only [Option.map_eq_some_iff,pI] at h; obtain ⟨_,_,_,_,rfl,rfl⟩:=h; exact .refl _)
  | (simp only [sI,pI] at h; obtain ⟨_,_,rfl,rfl⟩:=h; first | exact .refl _ | exact (AFr.set _ _ _).trans (.push _ _))
theorem F5l {ρ:Operand->AV} {op:Op} {c:Bool} {v:AV} {B':Heap} {D:List Nat} (h:A7f P ρ B op=some (c,v,B',D)):AFr B B' D:=by
 unfold A7f at h
 split at h
 ·rename_i r hr; cases h; exact F4m hr
 ·split at h
  ·rename_i r hr; cases h; exact F0d hr
  split at h
  ·rename_i r hr; cases h; exact F8y hr
  split at h
  ·rename_i r hr; cases h; exact G3v hr
  ·simp only [Option.map_eq_some_iff,pI] at h; obtain ⟨_,_,_,_,rfl,rfl⟩:=h; exact .refl _
theorem G4c {ρ:Operand->AV} {op:Op} {v:AV} {B':Heap} {D:List Nat} (h:aop P ρ B op=some (v,B',D)):AFr B B' D:=by
 unfold aop at h
 split at h
 ·split at h
  ·cases h; exact .refl _
  ·cases h
 ·split at h
  ·rename_i hc
   split at h
   ·cases h; exact F5l hc
   ·cases h
  ·exact F6o h
def FrBp (bp:Bps):Prop:=∀ id g,bp id=some g->∀ ρ B e ρ' B' D,(g ρ B).get=some (e,ρ',B',D)->AFr B B' D
theorem FrBp.none:FrBp F8:=fun _ _ h=>by cases h
structure FrOK (r:Rec):Prop where
 exec:∀ bp c ρ B e ρ' B' D,FrBp bp->r.exec bp c ρ B=some (e,ρ',B',D)->AFr B B' D
 call:∀ f args B v B' D,r.call f args B=some (v,B',D)->AFr B B' D
variable {r:Rec}
theorem C4d (hr:FrOK r) {l:Nat} {args:List AV} {v:AV} {B':Heap} {D:List Nat} (h:A6t r l args B=some (v,B',D)):AFr B B' D:=by
 unfold A6t at h
 split at h
 ·split at h
  ·split at h
   ·rename_i ρ1 B1 D1 h1
    split at h
    ·split at h
     ·split at h
      ·rename_i e ρ2 B2 D2 h2
       split at h
       ·have key:∀ o,AFr B (B2.set l o) (D1++[l]++D2++[l]):=fun o =>
         ((((hr.exec _ _ _ _ _ _ _ _ .none h1).trans (.set _ _ _)).trans (hr.exec _ _ _ _ _ _ _ _ .none h2)).trans (.set _ _ _))
        cases e <;> (simp only [sI,pI] at h; obtain ⟨_,rfl,rfl⟩:=h; exact key _)
       ·simp at h
      ·simp at h
     ·simp at h
    ·simp at h
   ·simp at h
  ·simp at h
 ·simp at h
theorem E1r (hr:FrOK r) {f:AV} {args:List AV} {v:AV} {B':Heap} {D:List Nat} (h:C0j r f args B=some (v,B',D)):AFr B B' D:=by
 unfold C0j at h
 split at h
 ·exact hr.call _ _ _ _ _ _ h
 ·exact C4d hr h
 ·simp at h
theorem B2w (hr:FrOK r) {ρ:Operand->AV} {op:Op} {v:AV} {B':Heap} {D:List Nat} (h:P6 P r ρ B op=some (v,B',D)):AFr B B' D:=by
 unfold P6 at h
 split at h
 ·split at h
  ·exact Y6 h
  ·exact E1r hr h
 ·exact G4c h
theorem B3i (hr:FrOK r) {ops:Array Oper}:∀ {l:List Oper} {ρ ρ':List AV} {B B':Heap} {D:List Nat},U2 P r ops l ρ B=some (ρ',B',D)->AFr B B' D
 | [],ρ,ρ',B,B',D,h=>by simp only [U2,sI,pI] at h; obtain ⟨_,rfl,rfl⟩:=h; exact .refl _
 | o :: l,ρ,ρ',B,B',D,h=>by
  simp only [U2] at h
  split at h
  ·split at h
   ·rename_i v B1 D1 h1
    simp only [Q7] at h
    split at h
    ·rename_i ρ2 B2 D2 h2
     cases h
     exact (B2w hr h1).trans (B3i hr h2)
    ·simp at h
   ·simp at h
  ·exact B3i hr h
  ·simp at h
theorem B2p (hr:FrOK r) {ops:Array Oper}:∀ {l:List Oper} {ρ ρ':List AV} {B B':Heap} {D:List Nat},A4y P r ops l ρ B=some (ρ',B',D)->AFr B B' D
 | [],ρ,ρ',B,B',D,h=>by simp only [A4y,sI,pI] at h; obtain ⟨_,rfl,rfl⟩:=h; exact .refl _
 | o :: l,ρ,ρ',B,B',D,h=>by
  simp only [A4y] at h
  split at h
  ·split at h
   ·rename_i v B1 D1 h1
    simp only [Q7] at h
    split at h
    ·rename_i ρ2 B2 D2 h2
     cases h
     exact (B2w hr h1).trans (B2p hr h2)
    ·simp at h
   ·simp at h
  ·exact B2p hr h
  ·simp at h
theorem D3m (hr:FrOK r) {ops:Array Oper} {m:Nat} {ρ ρ':List AV} {B':Heap} {D:List Nat} (h:A6x P r ops m ρ B=some (ρ',B',D)):AFr B B' D:=by
 unfold A6x at h
 split at h
 ·split at h
  ·rename_i h1
   exact (B3i hr h1).trans (B2p hr h)
  ·simp at h
 ·simp at h
theorem B6j (hr:FrOK r) {ops:Array Oper} {m:Nat} {ρ ρ':List AV} {B':Heap} {D:List Nat} (h:A2q P r ops m ρ B=some (ρ',B',D)):AFr B B' D:=by
 unfold A2q at h
 split at h
 ·split at h
  ·rename_i h1
   split at h
   ·rename_i h2
    split at h
    ·cases h; exact (B3i hr h1).trans (B3i hr h2)
    ·cases h
   ·cases h
  ·simp at h
 ·simp at h
theorem E5e (hr:FrOK r) {ops:Array Oper} {ρ ρ':List AV} {B':Heap} {D:List Nat} (h:B3e P r ops ρ B=some (ρ',B',D)):AFr B B' D:=by
 unfold B3e at h
 split at h
 ·exact B6j hr h
 ·unfold B8o at h
  split at h
  ·exact D3m hr h
  ·exact B6j hr h
theorem B0a {D D':List Nat} {x:E3d} {e:AEx} {ρ:List AV} {B:Heap} (h:B4i D x=some (e,ρ,B,D')):∃ D1,x=some (e,ρ,B,D1)/\D'=D++D1:=by
 unfold B4i at h
 split at h
 ·cases h; exact ⟨_,rfl,rfl⟩
 ·simp at h
theorem E3n (hr:FrOK r) {f:AV} {ρ:List AV} {ps:Array Tmp} {as body:Code} {v:AV} {B':Heap} {D:List Nat} (h:B9n r f ρ ps as body B=some (v,B',D)):AFr B B' D:=by
 unfold B9n at h
 split at h
 ·exact (AFr.push B _).trans (hr.call _ _ _ _ _ _ h)
 ·simp at h
theorem D1o (hr:FrOK r) {bp:Bps} (hb:FrBp bp):∀ {c:Code} {ρ ρ':List AV} {B B':Heap} {D:List Nat} {e:AEx},I5 P r bp c ρ B=some (e,ρ',B',D)->AFr B B' D:=by
 intro c
 induction c with
 | seq a b iha ihb =>
  intro ρ ρ' B B' D e h
  simp only [I5] at h
  split at h
  ·rename_i h1
   obtain ⟨D1,h2,rfl⟩:=B0a h
   exact (iha h1).trans (ihb h2)
  ·exact iha h
 | cond c a b iha ihb =>
  intro ρ ρ' B B' D e h
  simp only [I5] at h
  split at h
  ·exact iha h
  ·exact ihb h
  ·simp at h
 | block id c ih =>
  intro ρ ρ' B B' D e h
  simp only [I5] at h
  split at h
  ·rename_i g hg; exact hb _ _ hg _ _ _ _ _ _ h
  split at h
  ·rename_i h1; cases h; exact ih h1
  ·exact ih h
 | loop c ih =>
  intro ρ ρ' B B' D e h
  simp only [I5,R6,A1n] at h
  split at h
  ·rename_i h1
   obtain ⟨D1,h2,rfl⟩:=B0a h
   exact (ih h1).trans (hr.exec _ _ _ _ _ _ _ _ hb h2)
  ·exact ih h
 | scope c ih =>
  intro ρ ρ' B B' D e h
  exact ih h
 | region id ops draw =>
  intro ρ ρ' B B' D e h
  cases draw <;> simp only [I5,Option.map_eq_some_iff,pI,Prod.exists] at h
  ·obtain ⟨_,_,_,h1,_,_,rfl,rfl⟩:=h; exact B2p hr h1
  ·obtain ⟨_,_,_,h1,_,_,rfl,rfl⟩:=h; exact E5e hr h1
 | rangeFunc f ps as body iha ihb =>
  intro ρ ρ' B B' D e h
  simp only [I5] at h
  split at h
  ·rename_i h1
   have h2:=E3n hr h1
   split at h
   ·split at h
    ·simp at h
    ·split at h <;> first | (simp at h; done) | (cases h; exact h2.trans (.set _ _ _))
   ·simp at h
  ·simp at h
 | _ =>
  intro ρ ρ' B B' D e h
  simp only [I5,sI,pI,reduceCtorEq] at h
  try (obtain ⟨_,_,rfl,rfl⟩:=h; exact .refl _)
theorem G7q {v v':AV} {B' B'':Heap} {D D'':List Nat} (h:AFr B B' D) (hg:gc B v B' D=(v',B'',D'')):AFr B B'' D'':=by
 have hf:∀ b,b < B.length->b ∉ D.filter (· < B.length)->B'[b]?=B[b]?:=fun b hb hn=>h.2 b hb fun hm=>hn (by simp [hm,hb])
 unfold gc at hg
 simp only at hg
 split at hg
 ·cases hg
  split
  ·exact ⟨Nat.le_refl _,fun _ _ _=>rfl⟩
  ·refine ⟨by simp [Nat.min_eq_left h.1],fun b hb hn=>?_⟩
   rw [List.getElem?_take,if_pos hb]; exact hf b hb hn
 ·split at hg
  ·split at hg
   ·split at hg
    ·split at hg
     ·cases hg; exact .push _ _
     ·cases hg; exact ⟨h.1,hf⟩
    ·cases hg; exact ⟨h.1,hf⟩
   ·cases hg; exact ⟨h.1,hf⟩
  ·cases hg; exact ⟨h.1,hf⟩
def D3b (prims:Prims):Prop:=(∀ f g,prims.fn f=some g->∀ args B v B' D,(g args B).get=some (v,B',D)->AFr B B' D)/\∀ f,FrBp (prims.blk f)
theorem E7z {prims:Prims} (hp:D3b prims) (hr:FrOK r) {f:FuncId} {args:List AV} {v:AV} {B':Heap} {D:List Nat} (h:A7m P prims r f args B=some (v,B',D)):AFr B B' D:=by
 unfold A7m at h
 split at h
 ·rename_i hg; exact hp.1 _ _ hg _ _ _ _ _ h
 ·split at h
  ·simp at h
  ·split at h
   ·simp at h
   ·simp only [R6,A1n] at h
    split at h
    ·simp at h
    ·rename_i h1
     split at h
     ·simp only [sI] at h
      exact G7q (D1o hr (hp.2 _) h1) h
     ·simp at h
    ·simp at h
theorem C0s (P:Program) {prims:Prims} (hp:D3b prims):∀ n,FrOK (run P prims n)
 | 0=>⟨fun _ _ _ _ _ _ _ _ _ h=>by simp [run] at h,fun _ _ _ _ _ _ h=>by simp [run] at h⟩
 | n+1=>⟨fun _ _ _ _ _ _ _ _ hb h=>D1o (C0s P hp n) hb h,fun _ _ _ _ _ _ h=>E7z hp (C0s P hp n) h⟩
end Go.Ad
