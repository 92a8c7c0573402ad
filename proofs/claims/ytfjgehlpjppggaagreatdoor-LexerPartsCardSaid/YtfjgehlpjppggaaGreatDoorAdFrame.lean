/- What the abstract evaluator does not write stays as it was. -/
import Derived.Test.YtfjgehlpjppggaaGreatDoorAdExec
namespace Go.Ad
def AFr (B B':Heap) (D:List Nat):Prop:=B.length≤B'.length∧∀ b,b < B.length→b ∉ D→B'[b]?=B[b]?
theorem AFr.refl (B:Heap):AFr B B []:=⟨Nat.le_refl _,fun _ _ _=>rfl⟩
theorem AFr.trans {B B1 B2:Heap} {D D':List Nat} (h:AFr B B1 D) (h':AFr B1 B2 D'):AFr B B2 (D++D') :=
 ⟨Nat.le_trans h.1 h'.1,fun b hb hD=>(h'.2 b (Nat.lt_of_lt_of_le hb h.1) fun hm=>hD (by simp [hm])).trans (h.2 b hb fun hm=>hD (by simp [hm]))⟩
theorem AFr.push (B:Heap) (o:AObj):AFr B (B++[o]) [] :=
 ⟨by simp,fun b hb _=>List.getElem?_append_left hb⟩
theorem AFr.set (B:Heap) (b:Nat) (o:AObj):AFr B (B.set b o) [b] :=
 ⟨by simp,fun x _ hx=>by rw [List.getElem?_set]; simp at hx; rw [if_neg (Ne.symm hx)]⟩
variable {P:Program} {B:Heap}
theorem only_fr {o:Option AV} {v:AV} {B':Heap} {D:List Nat} (h:only B o=some (v,B',D)):AFr B B' D:=by
 unfold only at h
 simp only [Option.map_eq_some_iff,Prod.mk.injEq] at h
 obtain ⟨_,_,_,rfl,rfl⟩:=h
 exact .refl _
theorem st_fr {b o:Nat} {vs:List AV} {B':Heap} (h:st B b o vs=some B'):AFr B B' [b]:=by
 unfold st at h
 split at h
 ·split at h
  ·cases h; exact .set _ _ _
  ·simp at h
 ·simp at h
theorem aappend_fr {ts:Array TypeId} {s x:AV} {v:AV} {B':Heap} {D:List Nat} (h:aappend P B ts s x=some (v,B',D)):AFr B B' D:=by
 unfold aappend at h
 (repeat' split at h) <;> first
  | (simp at h; done)
  | (simp only [Option.some.injEq,Prod.mk.injEq] at h; obtain ⟨rfl,rfl,rfl⟩:=h; first | exact .refl _ | exact .push _ _ | exact .set _ _ _ | exact (AFr.set _ _ _).trans (.push _ _))
theorem acopy_fr {ts:Array TypeId} {s x:AV} {v:AV} {B':Heap} {D:List Nat} (h:acopy P B ts s x=some (v,B',D)):AFr B B' D:=by
 unfold acopy at h
 (repeat' split at h) <;> first
  | (simp at h; done)
  | exact only_fr h
  | (simp only [Option.map_eq_some_iff,Prod.mk.injEq] at h; obtain ⟨_,h1,_,rfl,rfl⟩:=h; exact st_fr h1)
theorem aclear_fr {ts:Array TypeId} {s:AV} {v:AV} {B':Heap} {D:List Nat} (h:aclear P B ts s=some (v,B',D)):AFr B B' D:=by
 unfold aclear at h
 (repeat' split at h) <;> first
  | (simp at h; done)
  | exact only_fr h
  | (simp only [Option.map_eq_some_iff,Prod.mk.injEq] at h; obtain ⟨_,h1,_,rfl,rfl⟩:=h; exact st_fr h1)
theorem aunsafeString_fr {ts:Array TypeId} {p n v:AV} {B':Heap} {D:List Nat} (h:aunsafeString P B ts p n=some (v,B',D)):AFr B B' D:=by
 unfold aunsafeString at h
 (repeat' split at h) <;> first
  | (simp at h; done)
  | exact only_fr h
  | (simp only [Option.map_eq_some_iff,Prod.mk.injEq] at h; obtain ⟨_,_,_,rfl,rfl⟩:=h; exact .set _ _ _)
theorem abuiltin_fr {b:Builtin} {ts:Array TypeId} {args:List AV} {v:AV} {B':Heap} {D:List Nat} (h:abuiltin P B b ts args=some (v,B',D)):AFr B B' D:=by
 unfold abuiltin at h
 split at h <;> first | exact aappend_fr h | exact acopy_fr h | exact aclear_fr h | exact only_fr h | exact aunsafeString_fr h | (simp at h; done)
theorem abuildSlice_fr {t:TypeId} {n:Nat} {ps:List (Nat × AV)} {v:AV} {B':Heap} {D:List Nat} (h:abuildSlice P B t n ps=some (v,B',D)):AFr B B' D:=by
 unfold abuildSlice at h
 (repeat' split at h) <;> first
  | (simp at h; done)
  | (simp only [Option.some.injEq,Prod.mk.injEq] at h; obtain ⟨rfl,rfl,rfl⟩:=h; exact .push _ _)
theorem amakeSlice_fr {t:TypeId} {x y v:AV} {B':Heap} {D:List Nat} (h:amakeSlice P B t x y=some (v,B',D)):AFr B B' D:=by
 unfold amakeSlice at h
 (repeat' split at h) <;> first
  | (simp at h; done)
  | (simp only [Option.some.injEq,Prod.mk.injEq] at h; obtain ⟨rfl,rfl,rfl⟩:=h; exact .push _ _)
theorem aconvert_fr {s d:TypeId} {x v:AV} {B':Heap} {D:List Nat} (h:aconvert P B s d x=some (v,B',D)):AFr B B' D:=by
 unfold aconvert at h
 (repeat' split at h) <;> first
  | (simp at h; done)
  | exact only_fr h
  | (simp only [Option.some.injEq,Prod.mk.injEq] at h; obtain ⟨rfl,rfl,rfl⟩:=h; exact .push _ _)
theorem astore_fr {t:TypeId} {p x v:AV} {B':Heap} {D:List Nat} (h:astore P B t p x=some (v,B',D)):AFr B B' D:=by
 unfold astore at h
 (repeat' split at h) <;> first
  | (simp at h; done)
  | (simp only [Option.map_eq_some_iff,Prod.mk.injEq] at h; obtain ⟨_,h1,_,rfl,rfl⟩:=h; exact st_fr h1)
theorem amakeMap_fr {x:Option AV} {v:AV} {B':Heap} {D:List Nat} (h:amakeMap B x=some (v,B',D)):AFr B B' D:=by
 unfold amakeMap at h
 split at h
 ·simp only [Option.some.injEq,Prod.mk.injEq] at h; obtain ⟨rfl,rfl,rfl⟩:=h; exact .push _ _
 ·cases h
theorem amapUpdate_fr {t:TypeId} {m k x v:AV} {B':Heap} {D:List Nat} (h:amapUpdate P B t m k x=some (v,B',D)):AFr B B' D:=by
 unfold amapUpdate at h
 (repeat' split at h) <;> first
  | (simp at h; done)
  | (simp only [Option.some.injEq,Prod.mk.injEq] at h; obtain ⟨rfl,rfl,rfl⟩:=h; exact .set _ _ _)
theorem aop0_fr {ρ:Operand→AV} {op:Op} {v:AV} {B':Heap} {D:List Nat} (h:aop0 P ρ B op=some (v,B',D)):AFr B B' D:=by
 unfold aop0 at h
 split at h <;> first
  | exact only_fr h
  | exact abuildSlice_fr h
  | exact amakeSlice_fr h
  | exact aconvert_fr h
  | exact abuiltin_fr h
  | exact amakeMap_fr h
  | exact amapUpdate_fr h
  | (simp at h; done)
  | (split at h <;> first | exact only_fr h | exact astore_fr h | (simp at h; done) | (simp only [Option.some.injEq,Prod.mk.injEq] at h; obtain ⟨rfl,rfl,rfl⟩:=h; exact .push _ _))
  | (simp only [Option.map_eq_some_iff,Prod.mk.injEq] at h; obtain ⟨_,_,_,rfl,rfl⟩:=h; exact .push _ _)
theorem avappend_fr {t tx:TypeId} {b n:Nat} {x:AV} {c:Bool} {v:AV} {B':Heap} {D:List Nat} (h:avappend P B t tx b n x=some (c,v,B',D)):AFr B B' D:=by
 unfold avappend at h
 (repeat' split at h) <;> first
  | (simp at h; done)
  | (simp only [Option.some.injEq,Prod.mk.injEq] at h; obtain ⟨_,_,rfl,rfl⟩:=h; exact (AFr.set _ _ _).trans (.push _ _))
theorem atappend_fr {t tx:TypeId} {b n:Nat} {x:AV} {c:Bool} {v:AV} {B':Heap} {D:List Nat} (h:atappend P B t tx b n x=some (c,v,B',D)):AFr B B' D:=by
 unfold atappend at h
 (repeat' split at h) <;> first
  | (simp at h; done)
  | (simp only [Option.some.injEq,Prod.mk.injEq] at h; obtain ⟨_,_,rfl,rfl⟩:=h; exact (AFr.set _ _ _).trans (.push _ _))
theorem atString_fr {ts:Array TypeId} {b n:Nat} {m:AV} {c:Bool} {v:AV} {B':Heap} {D:List Nat} (h:atString P B ts b n m=some (c,v,B',D)):AFr B B' D:=by
 unfold atString at h
 (repeat' split at h) <;> first
  | (simp at h; done)
  | (simp only [Option.some.injEq,Prod.mk.injEq] at h; obtain ⟨_,_,rfl,rfl⟩:=h; exact .set _ _ _)
theorem avec0_fr {ρ:Operand→AV} {op:Op} {c:Bool} {v:AV} {B':Heap} {D:List Nat} (h:avec0 P ρ B op=some (c,v,B',D)):AFr B B' D:=by
 unfold avec0 at h
 split at h
 ·split at h
  ·simp only [Option.map_eq_some_iff,Prod.mk.injEq] at h; obtain ⟨_,_,_,_,rfl,rfl⟩:=h; exact .refl _
  ·cases h
 ·split at h
  ·split at h
   ·simp only [Option.some.injEq,Prod.mk.injEq] at h; obtain ⟨_,_,rfl,rfl⟩:=h; exact .refl _
   ·cases h
  ·cases h
 ·split at h
  ·split at h
   ·exact atappend_fr h
   ·exact avappend_fr h
  ·cases h
 ·split at h
  ·simp only [Option.some.injEq,Prod.mk.injEq] at h; obtain ⟨_,_,rfl,rfl⟩:=h; exact .refl _
  ·cases h
 ·split at h
  ·exact atString_fr h
  ·cases h
 ·split at h
  ·split at h
   ·split at h
    ·simp only [Option.some.injEq,Prod.mk.injEq] at h; obtain ⟨_,_,rfl,rfl⟩:=h; exact .refl _
    ·cases h
   ·cases h
  ·cases h
 ·simp only [Option.map_eq_some_iff,Prod.mk.injEq] at h; obtain ⟨_,_,_,_,rfl,rfl⟩:=h; exact .refl _
theorem aarrNew_fr {t:TypeId} {cs:List AV} {c:Bool} {v:AV} {B':Heap} {D:List Nat} (h:aarrNew P B t cs=some (c,v,B',D)):AFr B B' D:=by
 unfold aarrNew at h
 (repeat' split at h) <;> first
  | (simp at h; done)
  | (simp only [Option.some.injEq,Prod.mk.injEq] at h; obtain ⟨_,_,rfl,rfl⟩:=h; exact .push _ _)
theorem aarrStore_fr {t:TypeId} {x p:AV} {c:Bool} {v:AV} {B':Heap} {D:List Nat} (h:aarrStore P B t x p=some (c,v,B',D)):AFr B B' D:=by
 unfold aarrStore at h
 (repeat' split at h) <;> first
  | (simp at h; done)
  | (simp only [Option.some.injEq,Prod.mk.injEq] at h; obtain ⟨_,_,rfl,rfl⟩:=h; exact .set _ _ _)
theorem aarrCopy_fr {ts:Array TypeId} {d x:AV} {c:Bool} {v:AV} {B':Heap} {D:List Nat} (h:aarrCopy P B ts d x=some (c,v,B',D)):AFr B B' D:=by
 unfold aarrCopy at h
 (repeat' split at h) <;> first
  | (simp at h; done)
  | (simp only [Option.some.injEq,Prod.mk.injEq] at h; obtain ⟨_,_,rfl,rfl⟩:=h; exact .set _ _ _)
theorem aarrMake_fr {t:TypeId} {l n:AV} {c:Bool} {v:AV} {B':Heap} {D:List Nat} (h:aarrMake P B t l n=some (c,v,B',D)):AFr B B' D:=by
 unfold aarrMake at h
 (repeat' split at h) <;> first
  | (simp at h; done)
  | (simp only [Option.some.injEq,Prod.mk.injEq] at h; obtain ⟨_,_,rfl,rfl⟩:=h; exact .push _ _)
theorem aarr_fr {ρ:Operand→AV} {op:Op} {c:Bool} {v:AV} {B':Heap} {D:List Nat} (h:aarr P ρ B op=some (c,v,B',D)):AFr B B' D:=by
 unfold aarr at h
 (repeat' split at h) <;> first
  | (simp at h; done)
  | exact aarrStore_fr h
  | exact aarrNew_fr h
  | exact aarrCopy_fr h
  | exact aarrMake_fr h
  | (simp only [Option.map_eq_some_iff,Prod.mk.injEq] at h; obtain ⟨_,_,_,_,rfl,rfl⟩:=h; exact .refl _)
  | (simp only [Option.some.injEq,Prod.mk.injEq] at h; obtain ⟨_,_,rfl,rfl⟩:=h; exact .refl _)
  | (simp only [Option.bind_eq_some_iff] at h; obtain ⟨_,_,h⟩:=h; exact aarrNew_fr h)
theorem atl_fr {ρ:Operand→AV} {op:Op} {c:Bool} {v:AV} {B':Heap} {D:List Nat} (h:atl P ρ B op=some (c,v,B',D)):AFr B B' D:=by
 unfold atl at h
 (repeat' split at h) <;> first
  | (simp at h; done)
  | (simp only [Option.some.injEq,Prod.mk.injEq] at h; obtain ⟨_,_,rfl,rfl⟩:=h; first | exact .refl _ | exact .set _ _ _ | exact (AFr.set _ _ _).trans (.push _ _))
theorem aqs_fr {ρ:Operand→AV} {op:Op} {c:Bool} {v:AV} {B':Heap} {D:List Nat} (h:aqs P ρ B op=some (c,v,B',D)):AFr B B' D:=by
 unfold aqs at h
 (repeat' split at h) <;> first
  | (simp at h; done)
  | (simp only [Option.map_eq_some_iff,Prod.mk.injEq] at h; obtain ⟨_,_,_,_,rfl,rfl⟩:=h; exact .refl _)
  | (simp only [Option.some.injEq,Prod.mk.injEq] at h; obtain ⟨_,_,rfl,rfl⟩:=h; first | exact .refl _ | exact (AFr.set _ _ _).trans (.push _ _))
theorem avec_fr {ρ:Operand→AV} {op:Op} {c:Bool} {v:AV} {B':Heap} {D:List Nat} (h:avec P ρ B op=some (c,v,B',D)):AFr B B' D:=by
 unfold avec at h
 split at h
 ·rename_i r hr; cases h; exact aarr_fr hr
 ·split at h
  ·rename_i r hr; cases h; exact avec0_fr hr
  split at h
  ·rename_i r hr; cases h; exact atl_fr hr
  split at h
  ·rename_i r hr; cases h; exact aqs_fr hr
  ·simp only [Option.map_eq_some_iff,Prod.mk.injEq] at h; obtain ⟨_,_,_,_,rfl,rfl⟩:=h; exact .refl _
theorem aop_fr {ρ:Operand→AV} {op:Op} {v:AV} {B':Heap} {D:List Nat} (h:aop P ρ B op=some (v,B',D)):AFr B B' D:=by
 unfold aop at h
 split at h
 ·split at h
  ·cases h; exact .refl _
  ·cases h
 ·split at h
  ·rename_i hc
   split at h
   ·cases h; exact avec_fr hc
   ·cases h
  ·exact aop0_fr h
def FrBp (bp:Bps):Prop:=∀ id g,bp id=some g→∀ ρ B e ρ' B' D,(g ρ B).get=some (e,ρ',B',D)→AFr B B' D
theorem FrBp.none:FrBp noBps:=fun _ _ h=>by cases h
structure FrOK (r:Rec):Prop where
 exec:∀ bp c ρ B e ρ' B' D,FrBp bp→r.exec bp c ρ B=some (e,ρ',B',D)→AFr B B' D
 call:∀ f args B v B' D,r.call f args B=some (v,B',D)→AFr B B' D
variable {r:Rec}
theorem ayield_fr (hr:FrOK r) {l:Nat} {args:List AV} {v:AV} {B':Heap} {D:List Nat} (h:ayield r l args B=some (v,B',D)):AFr B B' D:=by
 unfold ayield at h
 split at h
 ·split at h
  ·split at h
   ·rename_i ρ1 B1 D1 h1
    split at h
    ·split at h
     ·split at h
      ·rename_i e ρ2 B2 D2 h2
       split at h
       ·have key:∀ o,AFr B (B2.set l o) (D1++[l]++D2++[l]):=fun o =>
         ((((hr.exec _ _ _ _ _ _ _ _ .none h1).trans (.set _ _ _)).trans (hr.exec _ _ _ _ _ _ _ _ .none h2)).trans (.set _ _ _))
        cases e <;> (simp only [Option.some.injEq,Prod.mk.injEq] at h; obtain ⟨_,rfl,rfl⟩:=h; exact key _)
       ·simp at h
      ·simp at h
     ·simp at h
    ·simp at h
   ·simp at h
  ·simp at h
 ·simp at h
theorem acallv_fr (hr:FrOK r) {f:AV} {args:List AV} {v:AV} {B':Heap} {D:List Nat} (h:acallv r f args B=some (v,B',D)):AFr B B' D:=by
 unfold acallv at h
 split at h
 ·exact hr.call _ _ _ _ _ _ h
 ·exact ayield_fr hr h
 ·simp at h
theorem aone_fr (hr:FrOK r) {ρ:Operand→AV} {op:Op} {v:AV} {B':Heap} {D:List Nat} (h:aone P r ρ B op=some (v,B',D)):AFr B B' D:=by
 unfold aone at h
 split at h
 ·split at h
  ·exact only_fr h
  ·exact acallv_fr hr h
 ·exact aop_fr h
theorem aops_fr (hr:FrOK r) {ops:Array Oper}:∀ {l:List Oper} {ρ ρ':List AV} {B B':Heap} {D:List Nat},aops P r ops l ρ B=some (ρ',B',D)→AFr B B' D
 | [],ρ,ρ',B,B',D,h=>by simp only [aops,Option.some.injEq,Prod.mk.injEq] at h; obtain ⟨_,rfl,rfl⟩:=h; exact .refl _
 | o :: l,ρ,ρ',B,B',D,h=>by
  simp only [aops] at h
  split at h
  ·split at h
   ·rename_i v B1 D1 h1
    simp only [withAV_eq] at h
    split at h
    ·rename_i ρ2 B2 D2 h2
     cases h
     exact (aone_fr hr h1).trans (aops_fr hr h2)
    ·simp at h
   ·simp at h
  ·exact aops_fr hr h
  ·simp at h
theorem aopsN_fr (hr:FrOK r) {ops:Array Oper}:∀ {l:List Oper} {ρ ρ':List AV} {B B':Heap} {D:List Nat},aopsN P r ops l ρ B=some (ρ',B',D)→AFr B B' D
 | [],ρ,ρ',B,B',D,h=>by simp only [aopsN,Option.some.injEq,Prod.mk.injEq] at h; obtain ⟨_,rfl,rfl⟩:=h; exact .refl _
 | o :: l,ρ,ρ',B,B',D,h=>by
  simp only [aopsN] at h
  split at h
  ·split at h
   ·rename_i v B1 D1 h1
    simp only [withAV_eq] at h
    split at h
    ·rename_i ρ2 B2 D2 h2
     cases h
     exact (aone_fr hr h1).trans (aopsN_fr hr h2)
    ·simp at h
   ·simp at h
  ·exact aopsN_fr hr h
  ·simp at h
theorem aregion_fr (hr:FrOK r) {ops:Array Oper} {m:Nat} {ρ ρ':List AV} {B':Heap} {D:List Nat} (h:aregion P r ops m ρ B=some (ρ',B',D)):AFr B B' D:=by
 unfold aregion at h
 split at h
 ·split at h
  ·rename_i h1
   exact (aops_fr hr h1).trans (aopsN_fr hr h)
  ·simp at h
 ·simp at h
theorem aregion2_fr (hr:FrOK r) {ops:Array Oper} {m:Nat} {ρ ρ':List AV} {B':Heap} {D:List Nat} (h:aregion2 P r ops m ρ B=some (ρ',B',D)):AFr B B' D:=by
 unfold aregion2 at h
 split at h
 ·split at h
  ·rename_i h1
   split at h
   ·rename_i h2
    split at h
    ·cases h; exact (aops_fr hr h1).trans (aops_fr hr h2)
    ·cases h
   ·cases h
  ·simp at h
 ·simp at h
theorem adraw_fr (hr:FrOK r) {ops:Array Oper} {ρ ρ':List AV} {B':Heap} {D:List Nat} (h:adraw P r ops ρ B=some (ρ',B',D)):AFr B B' D:=by
 unfold adraw at h
 split at h
 ·exact aregion2_fr hr h
 ·unfold adraw0 at h
  split at h
  ·exact aregion_fr hr h
  ·exact aregion2_fr hr h
theorem after1_eq {D D':List Nat} {x:XRes} {e:AEx} {ρ:List AV} {B:Heap} (h:after1 D x=some (e,ρ,B,D')):∃ D1,x=some (e,ρ,B,D1)∧D'=D++D1:=by
 unfold after1 at h
 split at h
 ·cases h; exact ⟨_,rfl,rfl⟩
 ·simp at h
theorem astart_fr (hr:FrOK r) {f:AV} {ρ:List AV} {ps:Array Tmp} {as body:Code} {v:AV} {B':Heap} {D:List Nat} (h:astart r f ρ ps as body B=some (v,B',D)):AFr B B' D:=by
 unfold astart at h
 split at h
 ·exact (AFr.push B _).trans (hr.call _ _ _ _ _ _ h)
 ·simp at h
theorem execC_fr (hr:FrOK r) {bp:Bps} (hb:FrBp bp):∀ {c:Code} {ρ ρ':List AV} {B B':Heap} {D:List Nat} {e:AEx},execC P r bp c ρ B=some (e,ρ',B',D)→AFr B B' D:=by
 intro c
 induction c with
 | seq a b iha ihb =>
  intro ρ ρ' B B' D e h
  simp only [execC] at h
  split at h
  ·rename_i h1
   obtain ⟨D1,h2,rfl⟩:=after1_eq h
   exact (iha h1).trans (ihb h2)
  ·exact iha h
 | cond c a b iha ihb =>
  intro ρ ρ' B B' D e h
  simp only [execC] at h
  split at h
  ·exact iha h
  ·exact ihb h
  ·simp at h
 | block id c ih =>
  intro ρ ρ' B B' D e h
  simp only [execC] at h
  split at h
  ·rename_i g hg; exact hb _ _ hg _ _ _ _ _ _ h
  split at h
  ·rename_i h1; cases h; exact ih h1
  ·exact ih h
 | loop c ih =>
  intro ρ ρ' B B' D e h
  simp only [execC,withL_eq,withH_eq] at h
  split at h
  ·rename_i h1
   obtain ⟨D1,h2,rfl⟩:=after1_eq h
   exact (ih h1).trans (hr.exec _ _ _ _ _ _ _ _ hb h2)
  ·exact ih h
 | scope c ih =>
  intro ρ ρ' B B' D e h
  exact ih h
 | region id ops draw =>
  intro ρ ρ' B B' D e h
  cases draw <;> simp only [execC,Option.map_eq_some_iff,Prod.mk.injEq,Prod.exists] at h
  ·obtain ⟨_,_,_,h1,_,_,rfl,rfl⟩:=h; exact aopsN_fr hr h1
  ·obtain ⟨_,_,_,h1,_,_,rfl,rfl⟩:=h; exact adraw_fr hr h1
 | rangeFunc f ps as body iha ihb =>
  intro ρ ρ' B B' D e h
  simp only [execC] at h
  split at h
  ·rename_i h1
   have h2:=astart_fr hr h1
   split at h
   ·split at h
    ·simp at h
    ·split at h <;> first | (simp at h; done) | (cases h; exact h2.trans (.set _ _ _))
   ·simp at h
  ·simp at h
 | _ =>
  intro ρ ρ' B B' D e h
  simp only [execC,Option.some.injEq,Prod.mk.injEq,reduceCtorEq] at h
  try (obtain ⟨_,_,rfl,rfl⟩:=h; exact .refl _)
theorem gc_fr {v v':AV} {B' B'':Heap} {D D'':List Nat} (h:AFr B B' D) (hg:gc B v B' D=(v',B'',D'')):AFr B B'' D'':=by
 have hf:∀ b,b < B.length→b ∉ D.filter (· < B.length)→B'[b]?=B[b]?:=fun b hb hn=>h.2 b hb fun hm=>hn (by simp [hm,hb])
 unfold gc at hg
 simp only at hg
 split at hg
 ·cases hg
  split
  ·exact ⟨Nat.le_refl _,fun _ _ _=>rfl⟩
  ·refine ⟨by simp [Nat.min_eq_left h.1],fun b hb hn=>?_⟩
   rw [List.getElem?_take,if_pos hb]; exact hf b hb hn
 ·split at hg
  ·split at hg
   ·split at hg
    ·split at hg
     ·cases hg; exact .push _ _
     ·cases hg; exact ⟨h.1,hf⟩
    ·cases hg; exact ⟨h.1,hf⟩
   ·cases hg; exact ⟨h.1,hf⟩
  ·cases hg; exact ⟨h.1,hf⟩
def PrimFr (prims:Prims):Prop:=(∀ f g,prims.fn f=some g→∀ args B v B' D,(g args B).get=some (v,B',D)→AFr B B' D)∧∀ f,FrBp (prims.blk f)
theorem callF_fr {prims:Prims} (hp:PrimFr prims) (hr:FrOK r) {f:FuncId} {args:List AV} {v:AV} {B':Heap} {D:List Nat} (h:callF P prims r f args B=some (v,B',D)):AFr B B' D:=by
 unfold callF at h
 split at h
 ·rename_i hg; exact hp.1 _ _ hg _ _ _ _ _ h
 ·split at h
  ·simp at h
  ·split at h
   ·simp at h
   ·simp only [withL_eq,withH_eq] at h
    split at h
    ·simp at h
    ·rename_i h1
     split at h
     ·simp only [Option.some.injEq] at h
      exact gc_fr (execC_fr hr (hp.2 _) h1) h
     ·simp at h
    ·simp at h
theorem run_fr (P:Program) {prims:Prims} (hp:PrimFr prims):∀ n,FrOK (run P prims n)
 | 0=>⟨fun _ _ _ _ _ _ _ _ _ h=>by simp [run] at h,fun _ _ _ _ _ _ h=>by simp [run] at h⟩
 | n+1=>⟨fun _ _ _ _ _ _ _ _ hb h=>execC_fr (run_fr P hp n) hb h,fun _ _ _ _ _ _ h=>callF_fr hp (run_fr P hp n) h⟩
end Go.Ad
