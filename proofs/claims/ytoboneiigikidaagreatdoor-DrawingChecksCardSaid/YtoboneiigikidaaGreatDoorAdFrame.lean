/- What the abstract evaluator does not write stays as it was. -/
import Derived.Test.YtoboneiigikidaaGreatDoorAdExec
namespace Go.Ad
def AFr (B B':Heap) (D:List Nat):Prop:=B.length<=B'.length/\∀ b,b < B.length->b ∉ D->B'[b]?=B[b]?
theorem AFr.refl (B:Heap):AFr B B []:=⟨Nat.le_refl _,fun _ _ _=>rfl⟩
theorem AFr.trans {B B1 B2:Heap} {D D':List Nat} (h:AFr B B1 D) (h':AFr B1 B2 D'):AFr B B2 (D++D') :=
 ⟨Nat.le_trans h.1 h'.1,fun b hb hD=>(h'.2 b (Nat.lt_of_lt_of_le hb h.1) fun hm=>hD (by simp [hm])).trans (h.2 b hb fun hm=>hD (by simp [hm]))⟩
theorem AFr.push (B:Heap) (o:AObj):AFr B (B++[o]) [] :=
 ⟨by simp,fun b hb _=>List.getElem?_append_left hb⟩
theorem AFr.set (B:Heap) (b:Nat) (o:AObj):AFr B (B.set b o) [b] :=
 ⟨by simp,fun x _ hx=>by rw [List.getElem?_set]; simp at hx; rw [if_neg (Ne.symm hx)]⟩
variable {P:Program} {B:Heap}
theorem Z6 {o:Option AV} {v:AV} {B':Heap} {D:List Nat} (h:only B o=some (v,B',D)):AFr B B' D:=by
 unfold only at h
 simp only [Option.map_eq_some_iff,pI] at h
 obtain ⟨_,_,_,rfl,rfl⟩:=h
 exact .refl _
theorem E9v {b o:Nat} {vs:List AV} {B':Heap} (h:st B b o vs=some B'):AFr B B' [b]:=by
 unfold st at h
 split at h
 ·split at h
  ·cases h; exact .set _ _ _
  ·simp at h
 ·simp at h
theorem D2x {ts:Array TypeId} {s x:AV} {v:AV} {B':Heap} {D:List Nat} (h:O5 P B ts s x=some (v,B',D)):AFr B B' D:=by
 unfold O5 at h
 (repeat' split at h) <;> first
  | (simp at h; done)
  | (simp only [sI,pI] at h; obtain ⟨rfl,rfl,rfl⟩:=h; first | exact .refl _ | exact .push _ _ | exact .set _ _ _ | exact (AFr.set _ _ _).trans (.push _ _))
theorem E2z {ts:Array TypeId} {s x:AV} {v:AV} {B':Heap} {D:List Nat} (h:B6t P B ts s x=some (v,B',D)):AFr B B' D:=by
 unfold B6t at h
 (repeat' split at h) <;> first
  | (simp at h; done)
  | exact Z6 h
  | (simp only [Option.map_eq_some_iff,pI] at h; obtain ⟨_,h1,_,rfl,rfl⟩:=h; exact E9v h1)
theorem E0m {ts:Array TypeId} {s:AV} {v:AV} {B':Heap} {D:List Nat} (h:B6s P B ts s=some (v,B',D)):AFr B B' D:=by
 unfold B6s at h
 (repeat' split at h) <;> first
  | (simp at h; done)
  | exact Z6 h
  | (simp only [Option.map_eq_some_iff,pI] at h; obtain ⟨_,h1,_,rfl,rfl⟩:=h; exact E9v h1)
theorem B2t {ts:Array TypeId} {p n v:AV} {B':Heap} {D:List Nat} (h:Q6 P B ts p n=some (v,B',D)):AFr B B' D:=by
 unfold Q6 at h
 (repeat' split at h) <;> first
  | (simp at h; done)
  | exact Z6 h
  | (simp only [Option.map_eq_some_iff,pI] at h; obtain ⟨_,_,_,rfl,rfl⟩:=h; exact .set _ _ _)
theorem C8j {b:Builtin} {ts:Array TypeId} {args:List AV} {v:AV} {B':Heap} {D:List Nat} (h:A0q P B b ts args=some (v,B',D)):AFr B B' D:=by
 unfold A0q at h
 split at h <;> first | exact D2x h | exact E2z h | exact E0m h | exact Z6 h | exact B2t h | (simp at h; done)
theorem B6p {t:TypeId} {n:Nat} {ps:List (Nat × AV)} {v:AV} {B':Heap} {D:List Nat} (h:A1y P B t n ps=some (v,B',D)):AFr B B' D:=by
 unfold A1y at h
 (repeat' split at h) <;> first
  | (simp at h; done)
  | (simp only [sI,pI] at h; obtain ⟨rfl,rfl,rfl⟩:=h; exact .push _ _)
theorem C0o {t:TypeId} {x y v:AV} {B':Heap} {D:List Nat} (h:A0j P B t x y=some (v,B',D)):AFr B B' D:=by
 unfold A0j at h
 (repeat' split at h) <;> first
  | (simp at h; done)
  | (simp only [sI,pI] at h; obtain ⟨rfl,rfl,rfl⟩:=h; exact .push _ _)
theorem C8k {s d:TypeId} {x v:AV} {B':Heap} {D:List Nat} (h:A3f P B s d x=some (v,B',D)):AFr B B' D:=by
 unfold A3f at h
 (repeat' split at h) <;> first
  | (simp at h; done)
  | exact Z6 h
  | (simp only [sI,pI] at h; obtain ⟨rfl,rfl,rfl⟩:=h; exact .push _ _)
theorem E0z {t:TypeId} {p x v:AV} {B':Heap} {D:List Nat} (h:A2j P B t p x=some (v,B',D)):AFr B B' D:=by
 unfold A2j at h
 (repeat' split at h) <;> first
  | (simp at h; done)
  | (simp only [Option.map_eq_some_iff,pI] at h; obtain ⟨_,h1,_,rfl,rfl⟩:=h; exact E9v h1)
theorem C8n {t:TypeId} {x:Option AV} {v:AV} {B':Heap} {D:List Nat} (h:A7h P B t x=some (v,B',D)):AFr B B' D:=by
 unfold A7h at h
 split at h
 ·simp only [sI,pI] at h; obtain ⟨rfl,rfl,rfl⟩:=h; exact .push _ _
 ·cases h
theorem C0p {t:TypeId} {m k x v:AV} {B':Heap} {D:List Nat} (h:A1l P B t m k x=some (v,B',D)):AFr B B' D:=by
 unfold A1l at h
 split at h
 ·rename_i r hr
  cases h
  unfold A0m at hr
  (repeat' split at hr) <;> first
   | (simp at hr; done)
   | (simp only [sI,pI] at hr; obtain ⟨rfl,rfl,rfl⟩:=hr; exact .set _ _ _)
 ·unfold C3z at h
  (repeat' split at h) <;> first
   | (simp at h; done)
   | (simp only [sI,pI] at h; obtain ⟨rfl,rfl,rfl⟩:=h; exact .set _ _ _)
theorem F1g {ρ:Operand->AV} {op:Op} {v:AV} {B':Heap} {D:List Nat} (h:R8 P ρ B op=some (v,B',D)):AFr B B' D:=by
 unfold R8 at h
 split at h <;> first
  | exact Z6 h
  | exact B6p h
  | exact C0o h
  | exact C8k h
  | exact C8j h
  | exact C8n h
  | exact C0p h
  | (simp at h; done)
  | (split at h <;> first | exact Z6 h | exact E0z h | (simp at h; done) | (simp only [sI,pI] at h; obtain ⟨rfl,rfl,rfl⟩:=h; exact .push _ _))
  | (simp only [Option.map_eq_some_iff,pI] at h; obtain ⟨_,_,_,rfl,rfl⟩:=h; exact .push _ _)
theorem C8r {t tx:TypeId} {b n:Nat} {x:AV} {c:Bool} {v:AV} {B':Heap} {D:List Nat} (h:A7k P B t tx b n x=some (c,v,B',D)):AFr B B' D:=by
 unfold A7k at h
 (repeat' split at h) <;> first
  | (simp at h; done)
  | (simp only [sI,pI] at h; obtain ⟨_,_,rfl,rfl⟩:=h; exact (AFr.set _ _ _).trans (.push _ _))
theorem C8q {t tx:TypeId} {b n:Nat} {x:AV} {c:Bool} {v:AV} {B':Heap} {D:List Nat} (h:A7j P B t tx b n x=some (c,v,B',D)):AFr B B' D:=by
 unfold A7j at h
 (repeat' split at h) <;> first
  | (simp at h; done)
  | (simp only [sI,pI] at h; obtain ⟨_,_,rfl,rfl⟩:=h; exact (AFr.set _ _ _).trans (.push _ _))
theorem C8p {ts:Array TypeId} {b n:Nat} {m:AV} {c:Bool} {v:AV} {B':Heap} {D:List Nat} (h:A7i P B ts b n m=some (c,v,B',D)):AFr B B' D:=by
 unfold A7i at h
 (repeat' split at h) <;> first
  | (simp at h; done)
  | (simp only [sI,pI] at h; obtain ⟨_,_,rfl,rfl⟩:=h; exact .set _ _ _)
theorem E3g {ρ:Operand->AV} {op:Op} {c:Bool} {v:AV} {B':Heap} {D:List Nat} (h:K9 P ρ B op=some (c,v,B',D)):AFr B B' D:=by
 unfold K9 at h
 split at h
 ·split at h
  ·simp only [Option.map_eq_some_iff,pI] at h; obtain ⟨_,_,_,_,rfl,rfl⟩:=h; exact .refl _
  ·cases h
 ·split at h
  ·split at h
   ·simp only [sI,pI] at h; obtain ⟨_,_,rfl,rfl⟩:=h; exact .refl _
   ·cases h
  ·cases h
 ·split at h
  ·split at h
   ·exact C8q h
   ·exact C8r h
  ·cases h
 ·split at h
  ·simp only [sI,pI] at h; obtain ⟨_,_,rfl,rfl⟩:=h; exact .refl _
  ·cases h
 ·split at h
  ·exact C8p h
  ·cases h
 ·split at h
  ·split at h
   ·split at h
    ·simp only [sI,pI] at h; obtain ⟨_,_,rfl,rfl⟩:=h; exact .refl _
    ·cases h
   ·cases h
  ·cases h
 ·simp only [Option.map_eq_some_iff,pI] at h; obtain ⟨_,_,_,_,rfl,rfl⟩:=h; exact .refl _
theorem B6m {t:TypeId} {cs:List AV} {c:Bool} {v:AV} {B':Heap} {D:List Nat} (h:A4f P B t cs=some (c,v,B',D)):AFr B B' D:=by
 unfold A4f at h
 (repeat' split at h) <;> first
  | (simp at h; done)
  | (simp only [sI,pI] at h; obtain ⟨_,_,rfl,rfl⟩:=h; exact .push _ _)
theorem C3m {t:TypeId} {x p:AV} {c:Bool} {v:AV} {B':Heap} {D:List Nat} (h:A1k P B t x p=some (c,v,B',D)):AFr B B' D:=by
 unfold A1k at h
 (repeat' split at h) <;> first
  | (simp at h; done)
  | (simp only [sI,pI] at h; obtain ⟨_,_,rfl,rfl⟩:=h; exact .set _ _ _)
theorem C8g {ts:Array TypeId} {d x:AV} {c:Bool} {v:AV} {B':Heap} {D:List Nat} (h:A7a P B ts d x=some (c,v,B',D)):AFr B B' D:=by
 unfold A7a at h
 (repeat' split at h) <;> first
  | (simp at h; done)
  | (simp only [sI,pI] at h; obtain ⟨_,_,rfl,rfl⟩:=h; exact .set _ _ _)
theorem C8h {t:TypeId} {l n:AV} {c:Bool} {v:AV} {B':Heap} {D:List Nat} (h:A7b P B t l n=some (c,v,B',D)):AFr B B' D:=by
 unfold A7b at h
 (repeat' split at h) <;> first
  | (simp at h; done)
  | (simp only [sI,pI] at h; obtain ⟨_,_,rfl,rfl⟩:=h; exact .push _ _)
theorem C3k {s d:TypeId} {x:AV} {c:Bool} {v:AV} {B':Heap} {D:List Nat} (h:A4x P B s d x=some (c,v,B',D)):AFr B B' D:=by
 unfold A4x at h
 (repeat' split at h) <;> first
  | (simp at h; done)
  | (simp only [sI,pI] at h; obtain ⟨_,_,rfl,rfl⟩:=h; exact .push _ _)
theorem F1d {ρ:Operand->AV} {op:Op} {c:Bool} {v:AV} {B':Heap} {D:List Nat} (h:R4 P ρ B op=some (c,v,B',D)):AFr B B' D:=by
 unfold R4 at h
 (repeat' split at h) <;> first
  | (simp at h; done)
  | exact C3m h
  | exact B6m h
  | exact C8g h
  | exact C8h h
  | (rename_i hb; simp only [sI] at h; subst h; exact C3k hb)
  | (simp only [Option.map_eq_some_iff,pI] at h; obtain ⟨_,_,_,_,rfl,rfl⟩:=h; exact .refl _)
  | (simp only [sI,pI] at h; obtain ⟨_,_,rfl,rfl⟩:=h; exact .refl _)
  | (simp only [Option.bind_eq_some_iff] at h; obtain ⟨_,_,h⟩:=h; exact B6m h)
theorem F8z {ρ:Operand->AV} {op:Op} {c:Bool} {v:AV} {B':Heap} {D:List Nat} (h:atl P ρ B op=some (c,v,B',D)):AFr B B' D:=by
 unfold atl at h
 (repeat' split at h) <;> first
  | (simp at h; done)
  | (simp only [sI,pI] at h; obtain ⟨_,_,rfl,rfl⟩:=h; first | exact .refl _ | exact .set _ _ _ | exact (AFr.set _ _ _).trans (.push _ _))
theorem F8x {ρ:Operand->AV} {op:Op} {c:Bool} {v:AV} {B':Heap} {D:List Nat} (h:aqs P ρ B op=some (c,v,B',D)):AFr B B' D:=by
 unfold aqs at h
 (repeat' split at h) <;> first
  | (simp at h; done)
  | (simp only [Option.map_eq_some_iff,pI] at h; obtain ⟨_,_,_,_,rfl,rfl⟩:=h; exact .refl _)
  | (simp only [sI,pI] at h; obtain ⟨_,_,rfl,rfl⟩:=h; first | exact .refl _ | exact (AFr.set _ _ _).trans (.push _ _))
theorem F8v {ρ:Operand->AV} {op:Op} {c:Bool} {v:AV} {B':Heap} {D:List Nat} (h:afl P ρ B op=some (c,v,B',D)):AFr B B' D:=by
 unfold afl at h
 (repeat' split at h) <;> first
  | (simp at h; done)
  | (simp only [sI,pI] at h; obtain ⟨_,_,rfl,rfl⟩:=h; first | exact .refl _ | exact (AFr.set _ _ _).trans (.push _ _))
theorem F1k {ρ:Operand->AV} {op:Op} {c:Bool} {v:AV} {B':Heap} {D:List Nat} (h:A1o P ρ B op=some (c,v,B',D)):AFr B B' D:=by
 unfold A1o at h
 split at h
 ·rename_i r hr; cases h; exact F1d hr
 ·split at h
  ·rename_i r hr; cases h; exact E3g hr
  split at h
  ·rename_i r hr; cases h; exact F8z hr
  split at h
  ·rename_i r hr; cases h; exact F8x hr
  split at h
  ·simp only [sI,pI] at h; obtain ⟨_,_,rfl,rfl⟩:=h; exact .refl _
  ·exact F8v h
theorem F8w {ρ:Operand->AV} {op:Op} {v:AV} {B':Heap} {D:List Nat} (h:aop P ρ B op=some (v,B',D)):AFr B B' D:=by
 unfold aop at h
 split at h
 ·split at h
  ·cases h; exact .refl _
  ·cases h
 ·split at h
  ·rename_i hc
   split at h
   ·cases h; exact F1k hc
   ·cases h
  ·exact F1g h
def FrBp (bp:Bps):Prop:=∀ id g,bp id=some g->∀ ρ B e ρ' B' D,(g ρ B).get=some (e,ρ',B',D)->AFr B B' D
theorem FrBp.none:FrBp A7z:=fun _ _ h=>by cases h
structure FrOK (r:Rec):Prop where
 exec:∀ bp c ρ B e ρ' B' D,FrBp bp->r.exec bp c ρ B=some (e,ρ',B',D)->AFr B B' D
 call:∀ f args B v B' D,r.call f args B=some (v,B',D)->AFr B B' D
variable {r:Rec}
theorem C1c (hr:FrOK r) {l:Nat} {args:List AV} {v:AV} {B':Heap} {D:List Nat} (h:A5r r l args B=some (v,B',D)):AFr B B' D:=by
 unfold A5r at h
 split at h
 ·split at h
  ·split at h
   ·rename_i ρ1 B1 D1 h1
    split at h
    ·split at h
     ·split at h
      ·rename_i e ρ2 B2 D2 h2
       split at h
       ·have key:∀ o,AFr B (B2.set l o) (D1++[l]++D2++[l]):=fun o =>
         ((((hr.exec _ _ _ _ _ _ _ _ .none h1).trans (.set _ _ _)).trans (hr.exec _ _ _ _ _ _ _ _ .none h2)).trans (.set _ _ _))
        cases e <;> (simp only [sI,pI] at h; obtain ⟨_,rfl,rfl⟩:=h; exact key _)
       ·simp at h
      ·simp at h
     ·simp at h
    ·simp at h
   ·simp at h
  ·simp at h
 ·simp at h
theorem E0l (hr:FrOK r) {f:AV} {args:List AV} {v:AV} {B':Heap} {D:List Nat} (h:B6r r f args B=some (v,B',D)):AFr B B' D:=by
 unfold B6r at h
 split at h
 ·exact hr.call _ _ _ _ _ _ h
 ·exact C1c hr h
 ·simp at h
theorem B1f (hr:FrOK r) {ρ:Operand->AV} {op:Op} {v:AV} {B':Heap} {D:List Nat} (h:M5 P r ρ B op=some (v,B',D)):AFr B B' D:=by
 unfold M5 at h
 split at h
 ·split at h
  ·exact Z6 h
  ·exact E0l hr h
 ·exact F8w h
theorem B1h (hr:FrOK r) {ops:Array Oper}:∀ {l:List Oper} {ρ ρ':List AV} {B B':Heap} {D:List Nat},M6 P r ops l ρ B=some (ρ',B',D)->AFr B B' D
 | [],ρ,ρ',B,B',D,h=>by simp only [M6,sI,pI] at h; obtain ⟨_,rfl,rfl⟩:=h; exact .refl _
 | o :: l,ρ,ρ',B,B',D,h=>by
  simp only [M6] at h
  split at h
  ·split at h
   ·rename_i v B1 D1 h1
    simp only [O4] at h
    split at h
    ·rename_i ρ2 B2 D2 h2
     cases h
     exact (B1f hr h1).trans (B1h hr h2)
    ·simp at h
   ·simp at h
  ·exact B1h hr h
  ·simp at h
theorem B1g (hr:FrOK r) {ops:Array Oper}:∀ {l:List Oper} {ρ ρ':List AV} {B B':Heap} {D:List Nat},A4h P r ops l ρ B=some (ρ',B',D)->AFr B B' D
 | [],ρ,ρ',B,B',D,h=>by simp only [A4h,sI,pI] at h; obtain ⟨_,rfl,rfl⟩:=h; exact .refl _
 | o :: l,ρ,ρ',B,B',D,h=>by
  simp only [A4h] at h
  split at h
  ·split at h
   ·rename_i v B1 D1 h1
    simp only [O4] at h
    split at h
    ·rename_i ρ2 B2 D2 h2
     cases h
     exact (B1f hr h1).trans (B1g hr h2)
    ·simp at h
   ·simp at h
  ·exact B1g hr h
  ·simp at h
theorem D3k (hr:FrOK r) {ops:Array Oper} {m:Nat} {ρ ρ':List AV} {B':Heap} {D:List Nat} (h:A5q P r ops m ρ B=some (ρ',B',D)):AFr B B' D:=by
 unfold A5q at h
 split at h
 ·split at h
  ·rename_i h1
   exact (B1h hr h1).trans (B1g hr h)
  ·simp at h
 ·simp at h
theorem B3t (hr:FrOK r) {ops:Array Oper} {m:Nat} {ρ ρ':List AV} {B':Heap} {D:List Nat} (h:A2a P r ops m ρ B=some (ρ',B',D)):AFr B B' D:=by
 unfold A2a at h
 split at h
 ·split at h
  ·rename_i h1
   split at h
   ·rename_i h2
    split at h
    ·cases h; exact (B1h hr h1).trans (B1h hr h2)
    ·cases h
   ·cases h
  ·simp at h
 ·simp at h
theorem E3b (hr:FrOK r) {ops:Array Oper} {ρ ρ':List AV} {B':Heap} {D:List Nat} (h:B1d P r ops ρ B=some (ρ',B',D)):AFr B B' D:=by
 unfold B1d at h
 split at h
 ·exact B3t hr h
 ·unfold B6v at h
  split at h
  ·exact D3k hr h
  ·exact B3t hr h
theorem A8m {D D':List Nat} {x:E0k} {e:AEx} {ρ:List AV} {B:Heap} (h:B2r D x=some (e,ρ,B,D')):∃ D1,x=some (e,ρ,B,D1)/\D'=D++D1:=by
 unfold B2r at h
 split at h
 ·cases h; exact ⟨_,rfl,rfl⟩
 ·simp at h
theorem E0y (hr:FrOK r) {f:AV} {ρ:List AV} {ps:Array Tmp} {as body:Code} {v:AV} {B':Heap} {D:List Nat} (h:B7i r f ρ ps as body B=some (v,B',D)):AFr B B' D:=by
 unfold B7i at h
 split at h
 ·exact (AFr.push B _).trans (hr.call _ _ _ _ _ _ h)
 ·simp at h
theorem C9u (hr:FrOK r) {bp:Bps} (hb:FrBp bp):∀ {c:Code} {ρ ρ':List AV} {B B':Heap} {D:List Nat} {e:AEx},J6 P r bp c ρ B=some (e,ρ',B',D)->AFr B B' D:=by
 intro c
 induction c with
 | seq a b iha ihb =>
  intro ρ ρ' B B' D e h
  simp only [J6] at h
  split at h
  ·rename_i h1
   obtain ⟨D1,h2,rfl⟩:=A8m h
   exact (iha h1).trans (ihb h2)
  ·exact iha h
 | cond c a b iha ihb =>
  intro ρ ρ' B B' D e h
  simp only [J6] at h
  split at h
  ·exact iha h
  ·exact ihb h
  ·simp at h
 | block id c ih =>
  intro ρ ρ' B B' D e h
  simp only [J6] at h
  split at h
  ·rename_i g hg; exact hb _ _ hg _ _ _ _ _ _ h
  split at h
  ·rename_i h1; cases h; exact ih h1
  ·exact ih h
 | loop c ih =>
  intro ρ ρ' B B' D e h
  simp only [J6,U3,A1h] at h
  split at h
  ·rename_i h1
   obtain ⟨D1,h2,rfl⟩:=A8m h
   exact (ih h1).trans (hr.exec _ _ _ _ _ _ _ _ hb h2)
  ·exact ih h
 | scope c ih =>
  intro ρ ρ' B B' D e h
  exact ih h
 | region id ops draw =>
  intro ρ ρ' B B' D e h
  cases draw <;> simp only [J6,Option.map_eq_some_iff,pI,Prod.exists] at h
  ·obtain ⟨_,_,_,h1,_,_,rfl,rfl⟩:=h; exact B1g hr h1
  ·obtain ⟨_,_,_,h1,_,_,rfl,rfl⟩:=h; exact E3b hr h1
 | rangeFunc f ps as body iha ihb =>
  intro ρ ρ' B B' D e h
  simp only [J6] at h
  split at h
  ·rename_i h1
   have h2:=E0y hr h1
   split at h
   ·split at h
    ·simp at h
    ·split at h <;> first | (simp at h; done) | (cases h; exact h2.trans (.set _ _ _))
   ·simp at h
  ·simp at h
 | _ =>
  intro ρ ρ' B B' D e h
  simp only [J6,sI,pI,reduceCtorEq] at h
  try (obtain ⟨_,_,rfl,rfl⟩:=h; exact .refl _)
theorem G3f {v v':AV} {B' B'':Heap} {D D'':List Nat} (h:AFr B B' D) (hg:gc B v B' D=(v',B'',D'')):AFr B B'' D'':=by
 have hf:∀ b,b < B.length->b ∉ D.filter (· < B.length)->B'[b]?=B[b]?:=fun b hb hn=>h.2 b hb fun hm=>hn (by simp [hm,hb])
 unfold gc at hg
 simp only at hg
 split at hg
 ·cases hg
  split
  ·exact ⟨Nat.le_refl _,fun _ _ _=>rfl⟩
  ·refine ⟨by simp [Nat.min_eq_left h.1],fun b hb hn=>?_⟩
   rw [List.getElem?_take,if_pos hb]; exact hf b hb hn
 ·split at hg
  ·split at hg
   ·split at hg
    ·split at hg
     ·cases hg; exact .push _ _
     ·cases hg; exact ⟨h.1,hf⟩
    ·cases hg; exact ⟨h.1,hf⟩
   ·cases hg; exact ⟨h.1,hf⟩
  ·cases hg; exact ⟨h.1,hf⟩
def D2v (prims:Prims):Prop:=(∀ f g,prims.fn f=some g->∀ args B v B' D,(g args B).get=some (v,B',D)->AFr B B' D)/\∀ f,FrBp (prims.blk f)
theorem E3j {prims:Prims} (hp:D2v prims) (hr:FrOK r) {f:FuncId} {args:List AV} {v:AV} {B':Heap} {D:List Nat} (h:A7m P prims r f args B=some (v,B',D)):AFr B B' D:=by
 unfold A7m at h
 split at h
 ·rename_i hg; exact hp.1 _ _ hg _ _ _ _ _ h
 ·split at h
  ·simp at h
  ·split at h
   ·simp at h
   ·simp only [U3,A1h] at h
    split at h
    ·simp at h
    ·rename_i h1
     split at h
     ·simp only [sI] at h
      exact G3f (C9u hr (hp.2 _) h1) h
     ·simp at h
    ·simp at h
theorem B3k (P:Program) {prims:Prims} (hp:D2v prims):∀ n,FrOK (run P prims n)
 | 0=>⟨fun _ _ _ _ _ _ _ _ _ h=>by simp [run] at h,fun _ _ _ _ _ _ h=>by simp [run] at h⟩
 | n+1=>⟨fun _ _ _ _ _ _ _ _ hb h=>C9u (B3k P hp n) hb h,fun _ _ _ _ _ _ h=>E3j hp (B3k P hp n) h⟩
end Go.Ad
