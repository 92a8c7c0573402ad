/- The reference's numbers: texts and their sizes, the check. -/
import Derived.Test.YteobbbhfocbgkaaGreatDoorBig15
import Derived.Test.YteobbbhfocbgkaaGreatDoorAdRat
namespace Go.Proofs.Tryz
open Go.Ad
open Go.Lib (decDigits itoa nDigits decFrom digitVal)
theorem run119 (a:List UInt8):(runK prog lib2 60).call 113 [.sstr a] (Bg 8) finV =
  brK (!(a == [])) (brK (decide ((0:Int)≤0∧(0:Int) < (a.length:Int))) (brK (((a.getD 0 0).toNat:Int) == 45) (brK (true && decide ((0:Int)≤1∧(1:Int)≤(a.length:Int))) (some (.sstr ((a.take a.length).drop 1))) none) (some (.sstr a))) none) (some (.sstr a)):=by kernel_rfl
theorem absT_cons (b:UInt8) (r:List UInt8):absT (b :: r)=if b=45 then r else b :: r:=by
 by_cases h:b=45
 ·subst h; rfl
 ·rw [if_neg h]
  unfold absT
  split
  ·rename_i e; cases e; exact (h rfl).elim
  ·rfl
theorem byte_eq {b:UInt8} {n:Nat} {c:UInt8} (hc:c.toNat=n):((b.toNat:Int) == (n:Int))=(b == c):=by
 by_cases h:b=c
 ·subst h; rw [hc]; simp
 ·have:b.toNat ≠ n:=fun e=>h (UInt8.toNat_inj.1 (by omega))
  rw [show (b == c)=false by simpa using h,beq_eq_false_iff_ne]
  omega
theorem run121 (a:List UInt8):(runK prog lib2 60).call 107 [.sstr a] (Bg 8) finV=brK (decide ((0:Int)≤0∧(0:Int) < (a.length:Int))) (some (.sbool (((a.getD 0 0).toNat:Int) == 45))) none:=by kernel_rfl
theorem run120 (s:List UInt8) (m:Bool):(runK prog lib2 60).call 120 [.sstr s,.sbool m] (Bg 8) finV=brK m (brK (!(s == [48])) (brK (decide (1+s.length < 4611686018427387904)) (some (.sstr (45 :: s))) none) (some (.sstr s))) (some (.sstr s)):=by kernel_rfl
def sgnT (s:List UInt8) (m:Bool):List UInt8:=bif m && !(s == [48]) then 45 :: s else s
noncomputable def T119:List Lf→Tr AV
 | [.s a]=>.leaf (.sstr (absT a))
 | _=>.fail
noncomputable def T121:List Lf→Tr AV
 | [.s a]=>.br (propB (isZ a)) (.leaf (.sbool (decide (dvalZ a < 0)))) .fail
 | _=>.fail
noncomputable def T120:List Lf→Tr AV
 | [.s a,.b m]=>.br (decide (1+a.length < 4611686018427387904)) (.leaf (.sstr (sgnT a m))) .fail
 | _=>.fail
noncomputable def pR1:Prims:=((pBig27.addt 113 (gP [.str] T119)).addt 107 (gP [.str] T121)).addt 120 (gP [.str,.bool] T120)
section
variable {A:Amb} (hT:Tab A) (hG:prog.globals.size≤A.G)
include hT hG
theorem pR1_ok:PrimOK prog A pR1:=by
 refine PrimOK.addP hmix hnum (lib2_ok hT) (PrimOK.addP hmix hnum (lib2_ok hT) (PrimOK.addP hmix hnum (lib2_ok hT) (pBig27_ok hT hG) hG func113 (by kernel_rfl) fun ls v h=>?_) hG func107 (by kernel_rfl) fun ls v h=>?_) hG func120 (by kernel_rfl) fun ls v h=>?_
 ·unfold T119 at h
  split at h
  ·rename_i a
   cases h
   refine ⟨rfl,60,.sstr (absT a),?_,rfl,fun ι x h=>h⟩
   rw [gsz]
   refine (run119 a).trans ?_
   cases a with
   | nil=>rfl
   | cons b r =>
    rw [absT_cons,decide_eq_true (show (0:Int)≤0∧(0:Int) < ((List.length (b :: r):Nat):Int) by simp only [List.length_cons]; omega),decide_eq_true (show (0:Int)≤1∧(1:Int)≤((List.length (b :: r):Nat):Int) by simp only [List.length_cons]; omega)]
    show brK true (brK true (brK ((b.toNat:Int) == ((45:Nat):Int)) _ _) _) _=_
    rw [byte_eq (n:=45) (c:=45) rfl,List.take_length]
    by_cases hb:b=45
    ·subst hb; rfl
    ·rw [if_neg hb,show (b == 45)=false by simpa using hb]; rfl
  ·cases h
 ·unfold T121 at h
  split at h
  ·rename_i a
   obtain ⟨hc,hv⟩:=Tr.br1 h
   cases hv
   have hz:=propB_eq hc
   refine ⟨rfl,60,.sbool (decide (dvalZ a < 0)),?_,rfl,fun ι x h=>h⟩
   rw [gsz]
   refine (run121 a).trans ?_
   unfold isZ at hz
   generalize dvalZ a=Z at *
   subst hz
   rw [itoa_pos,itoa_head]; rfl
  ·cases h
 ·unfold T120 at h
  split at h
  ·rename_i a m
   obtain ⟨hc,hv⟩:=Tr.br1 h
   cases hv
   refine ⟨rfl,60,.sstr (sgnT a m),?_,rfl,fun ι x h=>h⟩
   rw [gsz]
   refine (run120 a m).trans ?_
   rw [hc]
   unfold sgnT
   cases m <;> cases (a == [48]) <;> rfl
  ·cases h
end
noncomputable def code154:Code:=f164.body.getD .skip
noncomputable def bodyBare:Code:=unLoop (findB 0 code154)
def spBare:SP:=⟨[.str]++dr 13,dd8⟩
theorem roundBare (a:List UInt8):execK prog (runK prog lib2 60) noBps bodyBare (spBare.rho [.s a]) (spBare.heap [.s a]) (nrmP (fun _=>spBare) 8 []) =
  brK (decide ((a.length:Int) > 1)) (brK (decide ((0:Int)≤0∧(0:Int) < (a.length:Int))) (brK (((a.getD 0 0).toNat:Int) == 48) (brK (true && decide ((0:Int)≤1∧(1:Int)≤(a.length:Int))) (some (.normal,[.s ((a.take a.length).drop 1)])) none) (some (.exit 0,[.s a]))) none) (some (.exit 0,[.s a])):=by kernel_rfl
def bareS:List UInt8→List UInt8
 | b :: c :: r=>if b=48 then bareS (c :: r) else b :: c :: r
 | s=>s
theorem stepBare (a:List UInt8):execK prog (runK prog lib2 60) noBps bodyBare (spBare.rho [.s a]) (spBare.heap [.s a]) (nrmP (fun _=>spBare) 8 []) =
  match a with
  | b :: c :: r=>if b=48 then some (.normal,[.s (c :: r)]) else some (.exit 0,[.s (b :: c :: r)])
  | s=>some (.exit 0,[.s s]):=by
 rw [roundBare]
 match a with
 | []=>rfl
 | [b]=>rfl
 | b :: c :: r =>
  rw [decide_eq_true (show ((List.length (b :: c :: r):Nat):Int) > 1 by simp only [List.length_cons]; omega),decide_eq_true (show (0:Int)≤0∧(0:Int) < ((List.length (b :: c :: r):Nat):Int) by simp only [List.length_cons]; omega),decide_eq_true (show (0:Int)≤1∧(1:Int)≤((List.length (b :: c :: r):Nat):Int) by simp only [List.length_cons]; omega),List.take_length]
  show brK true (brK true (brK ((b.toNat:Int) == ((48:Nat):Int)) _ _) _) _=if b=48 then _ else _
  rw [byte_eq (n:=48) (c:=48) rfl]
  by_cases h:b=48
  ·subst h; rfl
  ·rw [if_neg h,show (b == 48)=false by simpa using h]; rfl
theorem bareS_eq:∀ {s:List UInt8},s ≠ []→bareS s=if trimZ s=[] then [48] else trimZ s
 | [],h=>(h rfl).elim
 | [b],_=>by
  rw [trimZ_cons]
  by_cases h:b=48
  ·subst h; rfl
  ·rw [if_neg h]; rfl
 | b :: c :: r,_=>by
  rw [trimZ_cons]
  show (if b=48 then bareS (c :: r) else b :: c :: r)=_
  by_cases h:b=48
  ·rw [if_pos h,if_pos h]; exact bareS_eq (by simp)
  ·rw [if_neg h,if_neg h]; rfl
theorem bareS_itoa {s:List UInt8} (hn:s ≠ []) (h:s.all isDg=true):bareS s=itoa (digV 0 s):=by rw [bareS_eq hn,trimZ_itoa h]
noncomputable def hookBare:Blk:=hookP spBare 8 [] fun
 | [.s a]=>.leaf (.normal,spBare,[.s (bareS a)])
 | _=>.fail
noncomputable def T154:List Lf→Tr AV
 | [.s a]=>.leaf (.sstr (bareS a))
 | _=>.fail
noncomputable def pR2b:Prims:=lib2.addb 164 0 hookBare
noncomputable def pR2:Prims:=pR1.addt 164 (gP [.str] T154)
theorem run154 (a:List UInt8):(runK prog pR2b 60).call 164 [.sstr a] (Bg 8) finV=some (.sstr (bareS a)):=by kernel_rfl
section
variable {A:Amb} (hT:Tab A) (hG:prog.globals.size≤A.G)
include hT hG
omit hG in
theorem pR2b_ok:PrimOK prog A pR2b:=by
 have hp:=lib2_ok hT
 refine PrimOK.addbP hp func164 (show f164.body=some code154 by kernel_rfl) (body:=.loop bodyBare) (by kernel_rfl) (by kernel_rfl) fun ls e sq l h=>?_
 split at h
 ·rename_i a
  cases h
  refine ⟨⟨.inr rfl,.inr rfl,.inr rfl,.inr rfl,.inr rfl,.inr rfl,.inr rfl,.inr rfl,trivial⟩,fun Bb hB=>SEB.block_exit (id:=0) ?_⟩
  refine SEB.while (fun _:List UInt8=>True) List.length (fun a=>⟨spBare.rho [.s a],spBare.heap [.s a],[]⟩) (fun a=>(.exit 0,⟨spBare.rho [.s (bareS a)],spBare.heap [.s (bareS a)],[]⟩)) (fun a _=>?_) a trivial
  have hk:=stepBare a
  cases a with
  | nil =>
   right
   refine ⟨by simp,?_⟩
   simp only [show bareS []=[] from rfl]
   exact SEB.of_KP (A:=A) (B0:=Bb) (e:=.exit 0) hmix hnum hp (.none _) hB hk rfl
  | cons b t =>
   cases t with
   | nil =>
    right
    refine ⟨by simp,?_⟩
    simp only [show bareS [b]=[b] from rfl]
    exact SEB.of_KP (A:=A) (B0:=Bb) (e:=.exit 0) hmix hnum hp (.none _) hB hk rfl
   | cons c r =>
    simp only at hk
    by_cases hb:b=48
    ·rw [if_pos hb] at hk
     left
     refine ⟨c :: r,trivial,by simp,?_,SEB.of_KP (A:=A) (B0:=Bb) (e:=.normal) hmix hnum hp (.none _) hB hk rfl⟩
     subst hb
     rfl
    ·rw [if_neg hb] at hk
     right
     refine ⟨by simp,?_⟩
     have:bareS (b :: c :: r)=b :: c :: r:=by
      show (if b=48 then _ else _)=_
      rw [if_neg hb]
     simp only [this]
     exact SEB.of_KP (A:=A) (B0:=Bb) (e:=.exit 0) hmix hnum hp (.none _) hB hk rfl
 ·cases h
theorem pR2_ok:PrimOK prog A pR2:=by
 refine PrimOK.addP hmix hnum (pR2b_ok hT) (pR1_ok hT hG) hG func164 (by kernel_rfl) fun ls v h=>?_
 unfold T154 at h
 split at h
 ·rename_i a
  cases h
  exact ⟨rfl,60,.sstr (bareS a),by rw [gsz]; exact run154 a,rfl,fun ι x h=>h⟩
 ·cases h
end
end Go.Proofs.Tryz
namespace Go.Proofs.Tryz
open Go.Ad
open Go.Lib (decDigits itoa nDigits decFrom digitVal)
noncomputable def code113:Code:=f112.body.getD .skip
noncomputable def bodyCk:Code:=unLoop (findB 0 code113)
def spCk:SP:=⟨dr 3++[.str,.int .i64]++dr 38,dd8⟩
def spCkR:SP:=⟨dr 2++[.is (.int .i64 3)]++dr 40,dd8⟩
def exCk:AEx→SP
 | .ret=>spCkR
 | _=>spCk
theorem roundCk (s:List UInt8) (i:Int):execK prog (runK prog lib2 60) noBps bodyCk (spCk.rho [.s s,.i i]) (spCk.heap [.s s,.i i]) (nrmP exCk 8 []) =
  brK (decide (i < (s.length:Int))) (brK (decide (0≤i∧i < (s.length:Int))) (brK (decide (((s.getD i.toNat 0).toNat:Int) < 48)) (some (.ret,[])) (brK (decide (0≤i∧i < (s.length:Int))) (brK (decide (((s.getD i.toNat 0).toNat:Int) > 57)) (some (.ret,[])) (some (.normal,[.s s,.i (W (i+1))]))) none)) none)
   (some (.exit 0,[.s s,.i i])):=by kernel_rfl
theorem stepCk (s:List UInt8) (n:Nat) (hs:s.length < 2 ^ 62):execK prog (runK prog lib2 60) noBps bodyCk (spCk.rho [.s s,.i n]) (spCk.heap [.s s,.i n]) (nrmP exCk 8 []) =
  if n < s.length then (if isDg (s.getD n 0)=true then some (.normal,[.s s,.i ((n+1:Nat):Int)]) else some (.ret,[])) else some (.exit 0,[.s s,.i n]):=by
 rw [roundCk]
 by_cases h:n < s.length
 ·rw [if_pos h,decide_eq_true (show (n:Int) < (s.length:Int) by omega),decide_eq_true (show 0≤(n:Int)∧(n:Int) < (s.length:Int) by omega),Int.toNat_natCast,W_id (by omega) (by omega)]
  unfold isDg
  by_cases h1:(s.getD n 0).toNat < 48
  ·rw [decide_eq_true (show (((s.getD n 0).toNat:Nat):Int) < 48 by omega),decide_eq_false (show ¬ 48≤(s.getD n 0).toNat by omega)]; rfl
  ·rw [decide_eq_false (show ¬ (((s.getD n 0).toNat:Nat):Int) < 48 by omega),decide_eq_true (show 48≤(s.getD n 0).toNat by omega)]
   by_cases h2:(s.getD n 0).toNat≤57
   ·rw [decide_eq_false (show ¬ (((s.getD n 0).toNat:Nat):Int) > 57 by omega),decide_eq_true h2]; rfl
   ·rw [decide_eq_true (show (((s.getD n 0).toNat:Nat):Int) > 57 by omega),decide_eq_false h2]; rfl
 ·rw [if_neg h,decide_eq_false (show ¬ (n:Int) < (s.length:Int) by omega)]; rfl
noncomputable def hookCk:Blk:=hookP spCk 8 [] fun
 | [.s s,.i i]=>.br (propB (i=0) && szOK s) (.br (s.all isDg) (.leaf (.normal,spCk,[.s s,.i s.length])) (.leaf (.ret,spCkR,[]))) .fail
 | _=>.fail
theorem tw_all:∀ {s:List UInt8},s.all isDg=true→s.takeWhile isDg=s
 | [],_=>rfl
 | b :: r,h=>by
  rw [List.all_cons,Bool.and_eq_true] at h
  rw [List.takeWhile_cons_of_pos h.1,tw_all h.2]
theorem all_iff (s:List UInt8):s.all isDg=decide (lenC [2] s=s.length):=by
 rw [lenC_tw]
 by_cases h:(s.takeWhile isDg).length=s.length
 ·rw [decide_eq_true h,all_tw h]
 ·rw [decide_eq_false h,Bool.eq_false_iff]
  intro ha
  apply h
  rw [tw_all ha]
noncomputable def pR3b:Prims:=pR2.addb 112 0 hookCk
theorem run113 (a:List UInt8):(runK prog pR3b 60).call 112 [.sstr a] (Bg 8) finV =
  brK (absT a == []) (some (.int .i64 3)) (brK (decide ((0:Int)≤0∧(0:Int) < ((absT a).length:Int))) (brK ((((absT a).getD 0 0).toNat:Int) == 48) (brK (decide (((absT a).length:Int) > 1)) (some (.int .i64 3)) (brK (decide ((a.length:Int) > 1)) (some (.int .i64 3))
   (brK (propB ((0:Int)=0) && szOK (absT a)) (brK ((absT a).all isDg) (brK (decide (((absT a).length:Int) > 1024)) (some (.int .i64 11)) (some (.int .i64 0))) (some (.int .i64 3))) none)))
   (brK (propB ((0:Int)=0) && szOK (absT a)) (brK ((absT a).all isDg) (brK (decide (((absT a).length:Int) > 1024)) (some (.int .i64 11)) (some (.int .i64 0))) (some (.int .i64 3))) none)) none):=by kernel_rfl
section
variable {A:Amb} (hT:Tab A) (hG:prog.globals.size≤A.G)
include hT hG
theorem pR3b_ok:PrimOK prog A pR3b:=by
 have hp:=lib2_ok hT
 refine PrimOK.addbP (pR2_ok hT hG) func112 (show f112.body=some code113 by kernel_rfl) (body:=.loop bodyCk) (by kernel_rfl) (by kernel_rfl) fun ls e sq l h=>?_
 split at h
 ·rename_i s i
  obtain ⟨hc,hv⟩:=Tr.br1 h
  rw [Bool.and_eq_true] at hc
  have hi:=propB_eq hc.1
  have hs:s.length < 2 ^ 62:=of_decide_eq_true hc.2
  subst hi
  have key:∀ Bb:Heap,Bb.length=8→SEB prog A Bb (.loop bodyCk) ⟨spCk.rho [.s s,.i 0],spCk.heap [.s s,.i 0],[]⟩ (if lenC [2] s < s.length then .ret else .exit 0)
    (if lenC [2] s < s.length then ⟨spCkR.rho [],spCkR.heap [],[]⟩ else ⟨spCk.rho [.s s,.i (lenC [2] s:Nat)],spCk.heap [.s s,.i (lenC [2] s:Nat)],[]⟩):=fun Bb hB =>
   SEB.scan (A:=A) (B0:=Bb) (c:=bodyCk) (S:=fun n=>⟨spCk.rho [.s s,.i (n:Nat)],spCk.heap [.s s,.i (n:Nat)],[]⟩) (E:=fun n=>if n < s.length then ⟨spCkR.rho [],spCkR.heap [],[]⟩ else ⟨spCk.rho [.s s,.i (n:Nat)],spCk.heap [.s s,.i (n:Nat)],[]⟩)
    (e:=fun n=>if n < s.length then .ret else .exit 0) (p:=pCl [2] s) (N:=s.length) (fun n=>by by_cases h:n < s.length <;> simp [h])
    (fun n hn hp1=>by
     have hk:=stepCk s n hs
     rw [isDg_cls] at hp1
     rw [if_pos hn,if_pos hp1] at hk
     exact SEB.of_KP (A:=A) (B0:=Bb) (e:=.normal) hmix hnum hp (.none _) hB hk rfl)
    (fun n hn hp1=>by
     have hk:=stepCk s n hs
     by_cases hlt:n < s.length
     ·have:=hp1 hlt
      rw [isDg_cls] at this
      rw [if_pos hlt,if_neg (by rw [this]; simp)] at hk
      simp only [if_pos hlt]
      exact SEB.of_KP (A:=A) (B0:=Bb) (e:=.ret) hmix hnum hp (.none _) hB hk rfl
     ·rw [if_neg hlt] at hk
      simp only [if_neg hlt]
      exact SEB.of_KP (A:=A) (B0:=Bb) (e:=.exit 0) hmix hnum hp (.none _) hB hk rfl) 0 (Nat.zero_le _)
  have hle:=lenC_le [2] s
  rw [all_iff] at hv
  by_cases hl:lenC [2] s=s.length
  ·rw [decide_eq_true hl] at hv
   cases hv
   refine ⟨⟨.inr rfl,.inr rfl,.inr rfl,.inr rfl,.inr rfl,.inr rfl,.inr rfl,.inr rfl,trivial⟩,fun Bb hB=>SEB.block_exit (id:=0) ?_⟩
   have:=key Bb hB
   rw [if_neg (by omega),if_neg (by omega),hl] at this
   exact this
  ·rw [decide_eq_false hl] at hv
   cases hv
   refine ⟨⟨.inr rfl,.inr rfl,.inr rfl,.inr rfl,.inr rfl,.inr rfl,.inr rfl,.inr rfl,trivial⟩,fun Bb hB=>SEB.block_other (id:=0) ?_ (by simp)⟩
   have:=key Bb hB
   rw [if_pos (by omega),if_pos (by omega)] at this
   exact this
 ·cases h
noncomputable def pR3:Prims:=pR2.addt 112 (gP [.str] (gErr errI))
omit hT hG in
theorem absT_len1 (a:List UInt8):(absT a).length≤a.length∧((absT a).length < a.length→∃ r,a=45 :: r∧absT a=r):=by
 cases a with
 | nil=>exact ⟨Nat.le_refl _,fun h=>by simp at h⟩
 | cons b r =>
  rw [absT_cons]
  by_cases h:b=45
  ·subst h; rw [if_pos rfl]; exact ⟨by simp,fun _=>⟨r,rfl,rfl⟩⟩
  ·rw [if_neg h]; exact ⟨Nat.le_refl _,fun h=>by omega⟩
theorem pR3_ok:PrimOK prog A pR3:=by
 refine PrimOK.addP hmix hnum (pR3b_ok hT hG) (pR2_ok hT hG) hG func112 (by kernel_rfl) fun ls v h=>?_
 unfold gErr at h
 split at h
 ·rename_i a
  obtain ⟨hc,hv⟩:=Tr.br1 h
  cases hv
  have hs:a.length < 2 ^ 62:=of_decide_eq_true hc
  refine ⟨rfl,60,.int .i64 (errI a),?_,rfl,fun ι x h=>vr_int rfl x h⟩
  rw [gsz]
  refine (run113 a).trans ?_
  obtain ⟨h1,h2⟩:=absT_len1 a
  have hsz:szOK (absT a)=true:=decide_eq_true (by omega)
  rw [propB_true rfl,hsz]
  unfold errI
  by_cases h0:absT a=[]
  ·rw [if_pos (show absT a=[] ∨ (absT a).all isDg=false from .inl h0),show (absT a == [])=true by simpa using h0]; rfl
  ·have hpos:0 < (absT a).length:=by cases hh:absT a with | nil=>exact (h0 hh).elim | cons=>simp
   have hg:(absT a).getD 0 0=(absT a).headD 0:=by cases absT a <;> rfl
   rw [show (absT a == [])=false by simpa using h0,brK_f,decide_eq_true (show (0:Int)≤0∧(0:Int) < ((absT a).length:Int) by omega),brK_t,hg]
   have htail:brK (true && true) (brK ((absT a).all isDg) (brK (decide (((absT a).length:Int) > 1024)) (some (AV.int .i64 11)) (some (.int .i64 0))) (some (.int .i64 3))) none =
     some (AV.int .i64 (if (absT a).all isDg=false then 3 else if (absT a).length > 1024 then 11 else 0)):=by
    cases (absT a).all isDg with
    | false=>rfl
    | true =>
     by_cases hh:(absT a).length > 1024
     ·rw [decide_eq_true (show ((absT a).length:Int) > 1024 by omega)]; simp only [if_pos hh]; rfl
     ·rw [decide_eq_false (show ¬ ((absT a).length:Int) > 1024 by omega)]; simp only [if_neg hh]; rfl
   rw [htail]
   have hd:(((absT a).headD 0).toNat:Int) == 48 ↔ (absT a).headD 0=48:=by
    have:=byte_eq (b:=(absT a).headD 0) (n:=48) (c:=48) rfl
    show ((((absT a).headD 0).toNat:Int) == ((48:Nat):Int))=true ↔ _
    rw [this]; simp
   by_cases h3:(absT a).headD 0=48
   ·rw [hd.2 h3,brK_t]
    by_cases h4:a=[48]
    ·subst h4; rfl
    ·have h5:(absT a).length > 1 ∨ a.length > 1:=by
      rcases Nat.lt_or_ge 1 (absT a).length with h | h
      ·exact .inl h
      ·right
       rcases Nat.lt_or_ge (absT a).length a.length with h6 | h6
       ·omega
       ·exfalso
        apply h4
        have h7:a.length=1:=by omega
        obtain ⟨b,rfl⟩:=List.length_eq_one_iff.1 h7
        rw [absT_cons] at h3 h0
        by_cases hb:b=45
        ·subst hb; exact (h0 rfl).elim
        ·rw [if_neg hb] at h3
         have h3:b=48:=h3
         rw [h3]
     have h8:(if absT a=[] ∨ (absT a).all isDg=false then (3:Int) else if (absT a).headD 0=48∧a ≠ [48] then 3 else if (absT a).length > 1024 then 11 else 0)=3:=by
      split
      ·rfl
      ·rw [if_pos ⟨h3,h4⟩]
     rw [h8]
     rcases h5 with h | h
     ·rw [decide_eq_true (show ((absT a).length:Int) > 1 by omega)]; rfl
     ·by_cases h9:(absT a).length > 1
      ·rw [decide_eq_true (show ((absT a).length:Int) > 1 by omega)]; rfl
      ·rw [decide_eq_false (show ¬ ((absT a).length:Int) > 1 by omega),decide_eq_true (show (a.length:Int) > 1 by omega)]; rfl
   ·rw [show ((((absT a).headD 0).toNat:Int) == 48)=false by rw [Bool.eq_false_iff]; exact fun e=>h3 (hd.1 e),brK_f]
    simp only [h0,false_or,h3,false_and,if_false]
 ·cases h
end
end Go.Proofs.Tryz
namespace Go.Proofs.Tryz
open Go.Ad
open Go.Lib (decDigits itoa nDigits decFrom digitVal)
theorem digV_W (acc:Nat) (s:List UInt8):digV acc s=digW acc s:=rfl
noncomputable def code167:Code:=f162.body.getD .skip
noncomputable def bodyWd:Code:=unLoop (findB 0 code167)
def spWd:SP:=⟨[.str,.int .i64]++dr 3++[.row 8,.int .i64]++dr 20,dd8++[.arr [] .u8 5]⟩
def lfWd (s:List UInt8) (n:Int) (k:Nat) (i:Int) (m:Nat) (f:Nat→Int):List Lf:=[.s s,.i n,.n k,.i i,.n m,.f f]
theorem roundWd (s:List UInt8) (n:Int) (k:Nat) (i:Int) (m:Nat) (f:Nat→Int):execK prog (runK prog lib2 60) noBps bodyWd (spWd.rho (lfWd s n k i m f)) (spWd.heap (lfWd s n k i m f)) (nrmP (fun _=>spWd) 9 [8]) =
  brK (decide (i < n)) (brK (decide (0≤i∧i < (k:Int)) && decide (0≤0)) (brK (decide (0+i.toNat < m)) (some (.normal,lfWd s n k (W (i+1)) m (updF f (0+i.toNat) 48))) none) none) (some (.exit 0,lfWd s n k i m f)):=by kernel_rfl
def fillF (i:Nat):Nat→Int:=fun x=>if x < i then 48 else 0
theorem fillF_succ (i:Nat):updF (fillF i) i 48=fillF (i+1):=by
 funext x
 unfold updF fillF
 by_cases h:x=i
 ·subst h; rw [if_pos rfl,if_pos (by omega)]
 ·rw [if_neg h]
  by_cases h2:x < i
  ·rw [if_pos h2,if_pos (by omega)]
  ·rw [if_neg h2,if_neg (by omega)]
noncomputable def hookWd:Blk:=hookP spWd 9 [8] fun
 | [.s s,.i n,.n k,.i i,.n m,.f f]=>.br (propB (i=0∧n=(k:Int)∧m=k∧(f=fun _=>0)) && decide (k < 2147483648)) (.leaf (.normal,spWd,lfWd s n k n m (fillF k))) .fail
 | _=>.fail
noncomputable def pR4b:Prims:=pR3.addb 162 0 hookWd
abbrev txtF (k:Nat) (f:Nat→Int):List UInt8:=(List.range k).map fun x=>UInt8.ofNat (f (0+x)).toNat
theorem run167 (s:List UInt8) (n:Int):(runK prog pR4b 60).call 162 [.sstr s,.sint .i64 n] (Bg 8) finV =
  brK (decide (0≤n∧n=n∧n < 2147483648)) (brK (propB ((0:Int)=0∧n=(n.toNat:Int)∧n.toNat=n.toNat∧((fun _=>0:Nat→Int)=fun _=>0)) && decide (n.toNat < 2147483648))
   (brK (true && decide (0≤W (n - (s.length:Int))∧W (n - (s.length:Int))≤(n.toNat:Int))) (brK (true && (decide (0≤0+(W (n - (s.length:Int))).toNat) && decide (0+(W (n - (s.length:Int))).toNat+(n.toNat - (W (n - (s.length:Int))).toNat)≤n.toNat)))
    (brK (decide (0≤0) && decide (0+n.toNat≤n.toNat)) (some (.sstr (txtF n.toNat (copyF (fillF n.toNat) (0+(W (n - (s.length:Int))).toNat) (min s.length (n.toNat - (W (n - (s.length:Int))).toNat)) fun x=>((s.getD x 0).toNat:Int))))) none) none) none) none) none:=by kernel_rfl
theorem wide_text {s:List UInt8} {k:Nat} (h:s.length≤k):txtF k (copyF (fillF k) (k - s.length) s.length fun x=>((s.getD x 0).toNat:Int))=List.replicate (k - s.length) 48++s:=by
 apply List.ext_getElem
 ·simp; omega
 ·intro i h1 h2
  have hi:i < k:=by simpa [txtF] using h1
  unfold txtF
  rw [List.getElem_map,List.getElem_range,Nat.zero_add]
  unfold copyF
  by_cases hlt:i < k - s.length
  ·rw [decide_eq_false (show ¬ k - s.length≤i by omega),List.getElem_append_left (by simp; exact hlt)]
   simp [fillF,hi]
  ·rw [decide_eq_true (show k - s.length≤i by omega),decide_eq_true (show i < k - s.length+s.length by omega),List.getElem_append_right (by simp; omega)]
   simp only [Bool.and_self,cond_true,Int.toNat_natCast,List.length_replicate]
   rw [List.getD_eq_getElem?_getD,List.getElem?_eq_getElem (by omega)]
   apply UInt8.toNat_inj.1
   simp
noncomputable def T167:List Lf→Tr AV
 | [.s s,.i n]=>.br (decide (n < 2147483648) && decide ((s.length:Int)≤n)) (.leaf (.sstr (List.replicate (n.toNat - s.length) 48++s))) .fail
 | _=>.fail
noncomputable def pR4:Prims:=pR3.addt 162 (gP [.str,.int .i64] T167)
section
variable {A:Amb} (hT:Tab A) (hG:prog.globals.size≤A.G)
include hT hG
theorem pR4b_ok:PrimOK prog A pR4b:=by
 have hp:=lib2_ok hT
 refine PrimOK.addbP (pR3_ok hT hG) func162 (show f162.body=some code167 by kernel_rfl) (body:=.loop bodyWd) (by kernel_rfl) (by kernel_rfl) fun ls e sq l h=>?_
 split at h
 ·rename_i s n k i m f
  obtain ⟨hc,hv⟩:=Tr.br1 h
  cases hv
  rw [Bool.and_eq_true,decide_eq_true_eq] at hc
  obtain ⟨rfl,rfl,rfl,rfl⟩:=propB_eq hc.1
  have hk:=hc.2
  refine ⟨⟨.inr rfl,.inr rfl,.inr rfl,.inr rfl,.inr rfl,.inr rfl,.inr rfl,.inr rfl,.inl rfl,trivial⟩,fun Bb hB=>SEB.block_exit (id:=0) ?_⟩
  have e0:(fun _=>0:Nat→Int)=fillF 0:=by funext x; unfold fillF; rw [if_neg (by omega)]
  rw [e0]
  refine SEB.loop_nat (A:=A) (B0:=Bb) (c:=bodyWd) (I:=fun i=>⟨spWd.rho (lfWd s m m i m (fillF i)),spWd.heap (lfWd s m m i m (fillF i)),[8]⟩) (N:=m) (fun i hi=>?_) ?_ (by simp) (i:=0) (Nat.zero_le _)
  ·have hr:=roundWd s m m i m (fillF i)
   rw [decide_eq_true (show (i:Int) < (m:Int) by omega),decide_eq_true (show 0≤(i:Int)∧(i:Int) < (m:Int) by omega),Int.toNat_natCast,Nat.zero_add,decide_eq_true hi,fillF_succ,W_id (by omega) (by omega)] at hr
   exact SEB.of_KP (A:=A) (B0:=Bb) (e:=.normal) hmix hnum hp (.none _) hB hr rfl
  ·have hr:=roundWd s m m m m (fillF m)
   rw [decide_eq_false (show ¬ (m:Int) < (m:Int) by omega)] at hr
   exact SEB.of_KP (A:=A) (B0:=Bb) (e:=.exit 0) hmix hnum hp (.none _) hB hr rfl
 ·cases h
theorem pR4_ok:PrimOK prog A pR4:=by
 refine PrimOK.addP hmix hnum (pR4b_ok hT hG) (pR3_ok hT hG) hG func162 (by kernel_rfl) fun ls v h=>?_
 unfold T167 at h
 split at h
 ·rename_i s n
  obtain ⟨hc,hv⟩:=Tr.br1 h
  cases hv
  rw [Bool.and_eq_true,decide_eq_true_eq,decide_eq_true_eq] at hc
  obtain ⟨h1,h2⟩:=hc
  refine ⟨rfl,60,.sstr (List.replicate (n.toNat - s.length) 48++s),?_,rfl,fun ι x h=>h⟩
  rw [gsz]
  refine (run167 s n).trans ?_
  obtain ⟨k,rfl⟩:∃ k:Nat,n=k:=⟨n.toNat,by omega⟩
  have e1:W ((k:Int) - (s.length:Int))=((k - s.length:Nat):Int):=by rw [W_id (by omega) (by omega)]; omega
  rw [e1,Int.toNat_natCast,Int.toNat_natCast,decide_eq_true (show 0≤(k:Int)∧(k:Int)=(k:Int)∧(k:Int) < 2147483648 by omega),propB_true ⟨rfl,rfl,rfl,rfl⟩,decide_eq_true (show k < 2147483648 by omega),
   decide_eq_true (show 0≤((k - s.length:Nat):Int)∧((k - s.length:Nat):Int)≤(k:Int) by omega),Nat.zero_add,decide_eq_true (show 0≤k - s.length by omega),decide_eq_true (show k - s.length+(k - (k - s.length))≤k by omega),
   Nat.zero_add,decide_eq_true (show k≤k by omega),show min s.length (k - (k - s.length))=s.length by omega,wide_text (by omega)]
  rfl
 ·cases h
end
theorem run168 (c d e:Int) (ad:Bool):(runK prog lib2 60).call 163 [.rng .u8 c 48 57,.rng .u8 d 48 57,.rng .i64 e 0 1,.sbool ad] (Bg 8) finV =
  brK ad (brK (decide (c - 48+(d - 48)+e > 9)) (some (.tuple [.rng .u8 (48+(c - 48+(d - 48)+e) - 10) 38 57,.int .i64 1])) (some (.tuple [.rng .u8 (48+(c - 48+(d - 48)+e)) 48 67,.int .i64 0])))
   (brK (decide (c - 48 - (d - 48) - e < 0)) (some (.tuple [.rng .u8 (48+(c - 48 - (d - 48) - e)+10) 48 67,.int .i64 1])) (some (.tuple [.rng .u8 (48+(c - 48 - (d - 48) - e)) 38 57,.int .i64 0]))):=by kernel_rfl
noncomputable def gCol:List AV→Tr AV
 | [x,y,z,w]=>match snum x,snum y,snum z,sbool? w with
  | some (k1,c),some (k2,d),some (k3,e),some b=>.br (propB (k1=.u8∧k2=.u8∧k3=.i64) && decide ((48≤c∧c≤57)∧(48≤d∧d≤57)∧(0≤e∧e≤1))) (.leaf (.tuple [.sint .u8 (colR c d e b).1,.sint .i64 (colR c d e b).2])) .fail
  | _,_,_,_=>.fail
 | _=>.fail
theorem vr_tup2 {ι:Emb} {a b a' b':AV} (h1:∀ v,VR ι a v→VR ι a' v) (h2:∀ v,VR ι b v→VR ι b' v) (x:Value) (h:VR ι (.tuple [a,b]) x):VR ι (.tuple [a',b']) x:=by
 simp only [VR] at h ⊢
 obtain ⟨ys,rfl,hv⟩:=h
 refine ⟨ys,rfl,VRL.weaken (show [a',b'].length=[a,b].length from rfl) (fun i a1 hi=>?_) hv⟩
 match i,hi with
 | 0,hi=>cases hi; exact ⟨_,rfl,h1⟩
 | 1,hi=>cases hi; exact ⟨_,rfl,h2⟩
 | i+2,hi=>simp at hi
theorem vr_rngS {ι:Emb} {k:IntKind} {n m lo hi:Int} (e:n=m) (x:Value) (h:VR ι (.rng k n lo hi) x):VR ι (.sint k m) x:=by
 subst e
 simp only [VR] at h ⊢
 exact h.1
noncomputable def pR5:Prims:=pR4.addt 163 gCol
theorem pR5_ok {A:Amb} (hT:Tab A) (hG:prog.globals.size≤A.G):PrimOK prog A pR5:=by
 refine PrimOK.addt3 hmix hnum (pR4_ok hT hG) hG func163 (by kernel_rfl) fun args v hv=>?_
 unfold gCol at hv
 split at hv
 ·rename_i x y z w
  split at hv
  ·rename_i k1 c k2 d k3 e b hx hy hz hw
   obtain ⟨hc,hv⟩:=Tr.br1 hv
   cases hv
   rw [Bool.and_eq_true,decide_eq_true_eq] at hc
   obtain ⟨rfl,rfl,rfl⟩:=propB_eq hc.1
   obtain ⟨b1,b2,b3⟩:=hc.2
   have harg:∀ (ι:Emb) (xs:List Value),VRL ι [x,y,z,w] xs→VRL ι [.rng .u8 c 48 57,.rng .u8 d 48 57,.rng .i64 e 0 1,.sbool b] xs:=fun ι xs hxs=>by
    refine VRL.weaken (show ([.rng .u8 c 48 57,.rng .u8 d 48 57,.rng .i64 e 0 1,.sbool b]:List AV).length=[x,y,z,w].length from rfl) (fun i a' hi=>?_) hxs
    match i,hi with
    | 0,hi=>cases hi; exact ⟨_,rfl,fun v hv=>by simp only [VR]; exact ⟨snum_VR hx hv,b1⟩⟩
    | 1,hi=>cases hi; exact ⟨_,rfl,fun v hv=>by simp only [VR]; exact ⟨snum_VR hy hv,b2⟩⟩
    | 2,hi=>cases hi; exact ⟨_,rfl,fun v hv=>by simp only [VR]; exact ⟨snum_VR hz hv,b3⟩⟩
    | 3,hi=>cases hi; exact ⟨_,rfl,fun v hv=>by simp only [VR]; exact sbool_VR hw hv⟩
    | i+4,hi=>simp at hi
   have fin:∀ v',(runK prog lib2 60).call 163 [.rng .u8 c 48 57,.rng .u8 d 48 57,.rng .i64 e 0 1,.sbool b] (Bg 8) finV=some v'→below 0 v'=true→(∀ ι x,VR ι v' x→VR ι (.tuple [.sint .u8 (colR c d e b).1,.sint .i64 (colR c d e b).2]) x)→_:=fun v' g1 g2 g3 =>
    let ⟨B',hca⟩:=Ca.of_finV g1
    (⟨lib2,_,v',B',lib2_ok hT,harg,g3,rfl,g2,by rw [gsz]; exact hca⟩:∃ prims0 args' v' B',PrimOK prog A prims0∧(∀ (ι:Emb) (xs:List Value),VRL ι [x,y,z,w] xs→VRL ι args' xs)∧(∀ (ι:Emb) (x:Value),VR ι v' x→VR ι (.tuple [.sint .u8 (colR c d e b).1,.sint .i64 (colR c d e b).2]) x)∧belowL 0 args'=true∧below 0 v'=true∧Ca prog prims0 163 args' (Bg prog.globals.size) (v',B',[]))
   have hk:=run168 c d e b
   unfold colR at fin
   cases b with
   | true =>
    by_cases h1:c - 48+(d - 48)+e > 9
    ·rw [decide_eq_true h1] at hk
     refine fin _ hk rfl fun ι x=>?_
     simp only [cond_true,if_pos h1]
     exact vr_tup2 (fun v=>vr_rngS rfl v) (fun v=>vr_int rfl v) x
    ·rw [decide_eq_false h1] at hk
     refine fin _ hk rfl fun ι x=>?_
     simp only [cond_true,if_neg h1]
     exact vr_tup2 (fun v=>vr_rngS rfl v) (fun v=>vr_int rfl v) x
   | false =>
    by_cases h1:c - 48 - (d - 48) - e < 0
    ·rw [decide_eq_true h1] at hk
     refine fin _ hk rfl fun ι x=>?_
     simp only [cond_false,if_pos h1]
     exact vr_tup2 (fun v=>vr_rngS rfl v) (fun v=>vr_int rfl v) x
    ·rw [decide_eq_false h1] at hk
     refine fin _ hk rfl fun ι x=>?_
     simp only [cond_false,if_neg h1]
     exact vr_tup2 (fun v=>vr_rngS rfl v) (fun v=>vr_int rfl v) x
  ·cases hv
 ·cases hv
end Go.Proofs.Tryz
namespace Go.Proofs.Tryz
open Go.Ad
open Go.Lib (decDigits itoa nDigits decFrom digitVal)
noncomputable def code141:Code:=f121.body.getD .skip
noncomputable def bodyPp:Code:=unLoop (findB 0 code141)
def spPp:SP:=⟨[.str,.str,.bool]++dr 4++[.int .i64,.row 8,.int .i64,.int .i64]++dr 38,dd8++[.arr [] .u8 5]⟩
def lfPp (a b:List UInt8) (ad:Bool) (n:Int) (k:Nat) (c i:Int) (m:Nat) (f:Nat→Int):List Lf:=[.s a,.s b,.b ad,.i n,.n k,.i c,.i i,.n m,.f f]
theorem roundPp (a b:List UInt8) (ad:Bool) (n:Int) (k:Nat) (c i:Int) (m:Nat) (f:Nat→Int) :
  execK prog (runK prog pR5 60) noBps bodyPp (spPp.rho (lfPp a b ad n k c i m f)) (spPp.heap (lfPp a b ad n k c i m f)) (nrmP (fun _=>spPp) 9 [8]) =
  brK (decide (i ≥ 0)) (brK (decide (0≤i∧i < (a.length:Int))) (brK (decide (0≤i∧i < (b.length:Int)))
   (brK (propB (IntKind.u8=.u8∧IntKind.u8=.u8∧IntKind.i64=.i64) && decide ((48≤((a.getD i.toNat 0).toNat:Int)∧((a.getD i.toNat 0).toNat:Int)≤57)∧(48≤((b.getD i.toNat 0).toNat:Int)∧((b.getD i.toNat 0).toNat:Int)≤57)∧(0≤c∧c≤1)))
    (brK (decide (0≤i∧i < (k:Int)) && decide (0≤0)) (brK (decide (0+i.toNat < m))
     (some (.normal,lfPp a b ad n k (colR ((a.getD i.toNat 0).toNat:Int) ((b.getD i.toNat 0).toNat:Int) c ad).2 (W (i - 1)) m (updF f (0+i.toNat) (colR ((a.getD i.toNat 0).toNat:Int) ((b.getD i.toNat 0).toNat:Int) c ad).1))) none) none) none) none) none)
   (some (.exit 0,lfPp a b ad n k c i m f)):=by kernel_rfl
def lfPj (ad:Bool) (A B n j:Nat):List Lf:=lfPp (pad n A) (pad n B) ad n n (cF ad A B j:Nat) ((n:Int) - 1 - j) n (outF n (sumN ad A B) j)
theorem stepPp {ad:Bool} {A B n j:Nat} (h:ad=false→B≤A) (hn:n < 2147483648) (hj:j < n) :
  execK prog (runK prog pR5 60) noBps bodyPp (spPp.rho (lfPj ad A B n j)) (spPp.heap (lfPj ad A B n j)) (nrmP (fun _=>spPp) 9 [8])=some (.normal,lfPj ad A B n (j+1)):=by
 unfold lfPj
 have hi:(n:Int) - 1 - (j:Int)=((n - 1 - j:Nat):Int):=by omega
 have hc:=cF_le ad A B j
 rw [roundPp,hi,Int.toNat_natCast,pad_length,pad_length,pad_get n A _ (by omega),pad_get n B _ (by omega),show n - 1 - (n - 1 - j)=j by omega,col_step h,Nat.zero_add,outF_succ hj,
  decide_eq_true (show ((n - 1 - j:Nat):Int) ≥ 0 by omega),decide_eq_true (show 0≤((n - 1 - j:Nat):Int)∧((n - 1 - j:Nat):Int) < (n:Int) by omega),propB_true ⟨rfl,rfl,rfl⟩,
  decide_eq_true (show (48≤((48+A / 10 ^ j % 10:Nat):Int)∧((48+A / 10 ^ j % 10:Nat):Int)≤57)∧(48≤((48+B / 10 ^ j % 10:Nat):Int)∧((48+B / 10 ^ j % 10:Nat):Int)≤57)∧(0≤((cF ad A B j:Nat):Int)∧((cF ad A B j:Nat):Int)≤1) by omega),
  decide_eq_true (show n - 1 - j < n by omega),W_id (by omega) (by omega)]
 have h2:((n - 1 - j:Nat):Int) - 1=(n:Int) - 1 - ((j+1:Nat):Int):=by omega
 rw [h2]
 rfl
noncomputable def hookPp:Blk:=hookP spPp 9 [8] fun
 | [.s a,.s b,.b ad,.i n,.n k,.i c,.i i,.n m,.f f] =>
  .br (propB (n=(m:Int)∧k=m∧c=0∧i=(m:Int) - 1∧(f=fun _=>0)∧a=pad m (digW 0 a)∧b=pad m (digW 0 b)∧(ad=false→digW 0 b≤digW 0 a)) && decide (m < 2147483648)) (.leaf (.normal,spPp,lfPj ad (digW 0 a) (digW 0 b) m m)) .fail
 | _=>.fail
noncomputable def pR6b:Prims:=pR5.addb 121 0 hookPp
theorem pR6b_ok {A:Amb} (hT:Tab A) (hG:prog.globals.size≤A.G):PrimOK prog A pR6b:=by
 have hp:=pR5_ok hT hG
 refine PrimOK.addbP hp func121 (show f121.body=some code141 by kernel_rfl) (body:=.loop bodyPp) (by kernel_rfl) (by kernel_rfl) fun ls e sq l h=>?_
 split at h
 ·rename_i a b ad n k c i m f
  obtain ⟨hc,hv⟩:=Tr.br1 h
  cases hv
  rw [Bool.and_eq_true,decide_eq_true_eq] at hc
  obtain ⟨rfl,rfl,rfl,rfl,rfl,ha,hb,hle⟩:=propB_eq hc.1
  have hm:=hc.2
  refine ⟨⟨.inr rfl,.inr rfl,.inr rfl,.inr rfl,.inr rfl,.inr rfl,.inr rfl,.inr rfl,.inl rfl,trivial⟩,fun Bb hB=>SEB.block_exit (id:=0) ?_⟩
  generalize digW 0 a=X at *
  generalize digW 0 b=Y at *
  subst ha hb
  have e0:([.s (pad k X),.s (pad k Y),.b ad,.i (k:Int),.n k,.i 0,.i ((k:Int) - 1),.n k,.f fun _=>0]:List Lf)=lfPj ad X Y k 0:=by
   unfold lfPj lfPp
   rw [cF_zero,outF_zero]
   simp
  rw [e0]
  refine SEB.loop_nat (A:=A) (B0:=Bb) (c:=bodyPp) (I:=fun j=>⟨spPp.rho (lfPj ad X Y k j),spPp.heap (lfPj ad X Y k j),[8]⟩) (N:=k)
   (fun j hj=>SEB.of_KP (A:=A) (B0:=Bb) (e:=.normal) hmix hnum hp (.none _) hB (stepPp hle hm hj) rfl) ?_ (by simp) (i:=0) (Nat.zero_le _)
  have hr:execK prog (runK prog pR5 60) noBps bodyPp (spPp.rho (lfPj ad X Y k k)) (spPp.heap (lfPj ad X Y k k)) (nrmP (fun _=>spPp) 9 [8])=some (.exit 0,lfPj ad X Y k k):=by
   unfold lfPj
   rw [roundPp,decide_eq_false (show ¬ (k:Int) - 1 - (k:Int) ≥ 0 by omega)]
   rfl
  exact SEB.of_KP (A:=A) (B0:=Bb) (e:=.exit 0) hmix hnum hp (.none _) hB hr rfl
 ·cases h
noncomputable abbrev tree141 (a b:List UInt8) (ad:Bool) (n:Int) (a' b':List UInt8):Option AV :=
 brK (decide (n < 2147483648) && decide ((a.length:Int)≤n)) (brK (decide (n < 2147483648) && decide ((b.length:Int)≤n)) (brK (decide (0≤n∧n=n∧n < 2147483648))
  (brK (propB (n=(n.toNat:Int)∧n.toNat=n.toNat∧(0:Int)=0∧W (n - 1)=(n.toNat:Int) - 1∧((fun _=>0:Nat→Int)=fun _=>0)∧a'=pad n.toNat (digW 0 a')∧b'=pad n.toNat (digW 0 b')∧(ad=false→digW 0 b'≤digW 0 a')) && decide (n.toNat < 2147483648))
   (brK (decide (0≤0) && decide (0+n.toNat≤n.toNat)) (some (.sstr (bareS (txtF n.toNat (outF n.toNat (sumN ad (digW 0 a') (digW 0 b')) n.toNat))))) none) none) none) none) none
abbrev nPp (a b:List UInt8):Int:=W ((if (b.length:Int) > (a.length:Int) then (b.length:Int) else (a.length:Int))+1)
theorem run141 (a b:List UInt8) (ad:Bool):(runK prog pR6b 60).call 121 [.sstr a,.sstr b,.sbool ad] (Bg 8) finV =
  tree141 a b ad (nPp a b) (List.replicate ((nPp a b).toNat - a.length) 48++a) (List.replicate ((nPp a b).toNat - b.length) 48++b):=by kernel_rfl
theorem digW_zeros (k:Nat) (s:List UInt8):digW 0 (List.replicate k 48++s)=digW 0 s:=by
 induction k with
 | zero=>rfl
 | succ k ih=>rw [List.replicate_succ,List.cons_append]; exact ih
theorem pad_wide {s:List UInt8} {n:Nat} (h:s.all isDg=true) (hl:s.length≤n):List.replicate (n - s.length) 48++s=pad n (digW 0 s):=by
 have:=pad_of n (List.replicate (n - s.length) 48++s) (by rw [List.length_append,List.length_replicate]; omega) (by
  rw [List.all_append,h,Bool.and_true,List.all_eq_true]
  intro b hb
  rw [List.eq_of_mem_replicate hb]; rfl)
 rw [digW_zeros] at this
 exact this
noncomputable def T141:List Lf→Tr AV
 | [.s a,.s b,.b ad]=>.br (propB (a.all isDg=true∧b.all isDg=true∧a.length < 2 ^ 30∧b.length < 2 ^ 30∧(ad=false→digW 0 b≤digW 0 a))) (.leaf (.sstr (itoa (sumN ad (digW 0 a) (digW 0 b):Nat)))) .fail
 | _=>.fail
noncomputable def pR6:Prims:=pR5.addt 121 (gP [.str,.str,.bool] T141)
theorem digW_lt (s:List UInt8) (h:s.all isDg=true):digW 0 s < 10 ^ s.length:=by
 have:=digV_lt s 0 h
 rwa [Nat.zero_add,Nat.one_mul] at this
theorem tree141_eq {a b:List UInt8} {ad:Bool} (ha:a.all isDg=true) (hb:b.all isDg=true) (la:a.length < 2 ^ 30) (lb:b.length < 2 ^ 30) (hle:ad=false→digW 0 b≤digW 0 a) :
  tree141 a b ad (nPp a b) (List.replicate ((nPp a b).toNat - a.length) 48++a) (List.replicate ((nPp a b).toNat - b.length) 48++b)=some (.sstr (itoa (sumN ad (digW 0 a) (digW 0 b):Nat))):=by
 obtain ⟨k,hk,k1,k2⟩:∃ k:Nat,nPp a b=((k+1:Nat):Int)∧a.length≤k∧b.length≤k∧k < 2 ^ 30:=by
  refine ⟨max a.length b.length,?_,by omega,by omega,by omega⟩
  unfold nPp
  split <;> (rw [W_id (by omega) (by omega)]; omega)
 rw [hk,Int.toNat_natCast,pad_wide ha (by omega),pad_wide hb (by omega)]
 have lA:=Nat.lt_of_lt_of_le (digW_lt a ha) (Nat.pow_le_pow_right (n:=10) (by decide) k1)
 have lB:=Nat.lt_of_lt_of_le (digW_lt b hb) (Nat.pow_le_pow_right (n:=10) (by decide) k2.1)
 generalize digW 0 a=X at *
 generalize digW 0 b=Y at *
 have hX:X < 10 ^ (k+1):=by rw [Nat.pow_succ]; omega
 have hY:Y < 10 ^ (k+1):=by rw [Nat.pow_succ]; omega
 have hS:sumN ad X Y < 10 ^ (k+1):=by
  unfold sumN
  rw [Nat.pow_succ]
  cases ad <;> simp only [cond_true,cond_false] <;> omega
 unfold tree141
 rw [Int.toNat_natCast,digW_pad,digW_pad,Nat.mod_eq_of_lt hX,Nat.mod_eq_of_lt hY,decide_eq_true (show ((k+1:Nat):Int) < 2147483648 by omega),decide_eq_true (show (a.length:Int)≤((k+1:Nat):Int) by omega),decide_eq_true (show (b.length:Int)≤((k+1:Nat):Int) by omega),
  decide_eq_true (show 0≤((k+1:Nat):Int)∧((k+1:Nat):Int)=((k+1:Nat):Int)∧((k+1:Nat):Int) < 2147483648 by omega),decide_eq_true (show k+1 < 2147483648 by omega),decide_eq_true (show 0+(k+1)≤k+1 by omega),
  propB_true ⟨rfl,rfl,rfl,by rw [W_id (by omega) (by omega)],rfl,rfl,rfl,hle⟩]
 have ht:txtF (k+1) (outF (k+1) (sumN ad X Y) (k+1))=pad (k+1) (sumN ad X Y):=by
  rw [← outF_text]
  unfold txtF
  simp only [Nat.zero_add]
 rw [ht,bareS_itoa (by intro e; have:=pad_length (k+1) (sumN ad X Y); rw [e] at this; simp at this) (pad_all _ _),digV_W,digW_pad,Nat.mod_eq_of_lt hS]
 rfl
theorem pR6_ok {A:Amb} (hT:Tab A) (hG:prog.globals.size≤A.G):PrimOK prog A pR6:=by
 refine PrimOK.addP hmix hnum (pR6b_ok hT hG) (pR5_ok hT hG) hG func121 (by kernel_rfl) fun ls v h=>?_
 unfold T141 at h
 split at h
 ·rename_i a b ad
  obtain ⟨hc,hv⟩:=Tr.br1 h
  cases hv
  obtain ⟨ha,hb,la,lb,hle⟩:=propB_eq hc
  exact ⟨rfl,60,_,by rw [gsz]; exact (run141 a b ad).trans (tree141_eq ha hb la lb hle),rfl,fun ι x h=>h⟩
 ·cases h
end Go.Proofs.Tryz
namespace Go.Proofs.Tryz
open Go.Ad
open Go.Lib (decDigits itoa nDigits decFrom digitVal)
theorem wrap8 {n:Int} (h0:0≤n) (h1:n≤255):IntKind.u8.wrap n=n:=by
 have e:(2:Int) ^ IntKind.u8.bits=256:=by decide
 unfold IntKind.wrap
 simp only [e,show IntKind.u8.signed=false from rfl,Bool.false_and,Bool.false_eq_true,if_false]
 omega
theorem W_nat {n:Nat} (h:n≤2 ^ 62):W (n:Int)=n:=W_id (by omega) (by omega)
theorem wrap8_nat {n:Nat} (h:n≤255):IntKind.u8.wrap (n:Int)=n:=wrap8 (by omega) (by omega)
theorem dgI {s:List UInt8} (h:s.all isDg=true) {i:Nat} (hi:i < s.length):IntKind.u8.wrap (((s.getD i 0).toNat:Int) - 48)=(dg s i:Nat):=by
 unfold dg
 rw [List.getD_eq_getElem?_getD,List.getElem?_eq_getElem hi]
 have:=List.all_eq_true.1 h _ (List.getElem_mem hi)
 have hb:48≤(s[i]).toNat∧(s[i]).toNat≤57:=by simpa [isDg] using this
 simp only [Option.getD_some]
 rw [wrap8 (by omega) (by omega)]; omega
noncomputable def code123:Code:=f154.body.getD .skip
noncomputable def bodyPi:Code:=unLoop (findB 2 code123)
noncomputable def bodyPo:Code:=unLoop (findB 0 code123)
noncomputable def bodyPc:Code:=unLoop (findB 4 code123)
def spPi:SP:=⟨[.str,.str]++dr 3++[.row 8,.int .i64,.int .i64]++dr 69,dd8++[.arr [] .i64 3]⟩
def spPo:SP:=⟨[.str,.str]++dr 3++[.row 8,.int .i64]++dr 70,dd8++[.arr [] .i64 3]⟩
def spPc:SP:=⟨dr 5++[.row 8]++dr 2++[.row 9,.int .i64,.int .i64]++dr 66,dd8++[.arr [] .i64 3,.arr [] .u8 5]⟩
def lfPi (a b:List UInt8) (kk:Nat) (i k:Int) (m:Nat) (f:Nat→Int):List Lf:=[.s a,.s b,.n kk,.i i,.i k,.n m,.f f]
def lfPo (a b:List UInt8) (kk:Nat) (i:Int) (m:Nat) (f:Nat→Int):List Lf:=[.s a,.s b,.n kk,.i i,.n m,.f f]
def lfPc (kk k2:Nat) (c i:Int) (m:Nat) (f:Nat→Int) (m2:Nat) (g:Nat→Int):List Lf:=[.n kk,.n k2,.i c,.i i,.n m,.f f,.n m2,.f g]
abbrev plI (i k:Int):Int:=W (W (i+k)+1)
theorem roundPi (a b:List UInt8) (kk:Nat) (i k:Int) (m:Nat) (f:Nat→Int):execK prog (runK prog lib2 60) noBps bodyPi (spPi.rho (lfPi a b kk i k m f)) (spPi.heap (lfPi a b kk i k m f)) (nrmP (fun _=>spPi) 9 [8]) =
  brK (decide (k < (b.length:Int))) (brK (decide (0≤plI i k∧plI i k < (kk:Int)) && decide (0≤0)) (brK (decide (0+(plI i k).toNat < m)) (brK (decide (0≤i∧i < (a.length:Int))) (brK (decide (0≤k∧k < (b.length:Int))) (brK (decide (0≤plI i k∧plI i k < (kk:Int)) && decide (0≤0)) (brK (decide (0+(plI i k).toNat < m))
   (some (.normal,lfPi a b kk i (W (k+1)) m (updF f (0+(plI i k).toNat) (W (f (0+(plI i k).toNat)+W (W (IntKind.u8.wrap (((a.getD i.toNat 0).toNat:Int) - 48))*W (IntKind.u8.wrap (((b.getD k.toNat 0).toNat:Int) - 48)))))))) none) none) none) none) none) none)
   (some (.exit 2,lfPi a b kk i k m f)):=by kernel_rfl
def castF (g:Nat→Nat):Nat→Int:=fun x=>((g x:Nat):Int)
theorem castF_add (g:Nat→Nat) (i v:Nat):updF (castF g) i (((g i+v:Nat):Int))=castF (addG g i v):=by
 funext x
 unfold updF castF addG
 by_cases h:x=i
 ·rw [if_pos h,if_pos h]
 ·rw [if_neg h,if_neg h]
theorem stepPi {a b:List UInt8} {i k:Nat} (ha:a.all isDg=true) (hb:b.all isDg=true) (la:a.length < 2 ^ 29) (lb:b.length < 2 ^ 29) (hi:i < a.length) (hk:k < b.length) :
  execK prog (runK prog lib2 60) noBps bodyPi (spPi.rho (lfPi a b (a.length+b.length) i k (a.length+b.length) (castF (rowG b (dg a i) i (colG a b i) k)))) (spPi.heap (lfPi a b (a.length+b.length) i k (a.length+b.length) (castF (rowG b (dg a i) i (colG a b i) k)))) (nrmP (fun _=>spPi) 9 [8]) =
  some (.normal,lfPi a b (a.length+b.length) i (k+1:Nat) (a.length+b.length) (castF (rowG b (dg a i) i (colG a b i) (k+1)))):=by
 have e1:plI (i:Int) (k:Int)=((i+k+1:Nat):Int):=by unfold plI; rw [W_id (n:=(i:Int)+k) (by omega) (by omega),W_id (by omega) (by omega)]; omega
 have d1:=dg_le ha i
 have d2:=dg_le hb k
 have hm:=Nat.mul_le_mul d1 d2
 have hg:=row_le (d:=dg a i) (i:=i) hb d1 (g:=colG a b i) (M:=81*i) (col_le ha hb i) k (i+k+1)
 rw [roundPi,e1,Int.toNat_natCast,Int.toNat_natCast,Int.toNat_natCast,Nat.zero_add,dgI ha hi,dgI hb hk,W_id (n:=((dg a i:Nat):Int)) (by omega) (by omega),W_id (n:=((dg b k:Nat):Int)) (by omega) (by omega),← Int.natCast_mul,
  W_id (n:=((dg a i*dg b k:Nat):Int)) (by omega) (by omega)]
 have e2:castF (rowG b (dg a i) i (colG a b i) k) (i+k+1)=((rowG b (dg a i) i (colG a b i) k (i+k+1):Nat):Int):=rfl
 rw [e2,← Int.natCast_add,W_nat (n:=rowG b (dg a i) i (colG a b i) k (i+k+1)+dg a i*dg b k) (by omega),castF_add,W_id (by omega) (by omega),decide_eq_true (show (k:Int) < (b.length:Int) by omega),decide_eq_true (show 0≤((i+k+1:Nat):Int)∧((i+k+1:Nat):Int) < ((a.length+b.length:Nat):Int) by omega),
  decide_eq_true (show i+k+1 < a.length+b.length by omega),decide_eq_true (show 0≤(i:Int)∧(i:Int) < (a.length:Int) by omega),decide_eq_true (show 0≤(k:Int)∧(k:Int) < (b.length:Int) by omega)]
 rfl
noncomputable def hookPi:Blk:=hookP spPi 9 [8] fun
 | [.s a,.s b,.n kk,.i i,.i k,.n m,.f f] =>
  .br (propB (k=0∧0≤i∧i < (a.length:Int)∧kk=a.length+b.length∧m=a.length+b.length∧f=castF (colG a b i.toNat)∧a.all isDg=true∧b.all isDg=true∧a.length < 2 ^ 29∧b.length < 2 ^ 29)) (.leaf (.normal,spPi,lfPi a b (a.length+b.length) i b.length (a.length+b.length) (castF (colG a b (i.toNat+1))))) .fail
 | _=>.fail
theorem roundPo (a b:List UInt8) (kk:Nat) (i:Int) (m:Nat) (f:Nat→Int):execK prog (runK prog lib2 60) (oneB 2 hookPi) bodyPo (spPo.rho (lfPo a b kk i m f)) (spPo.heap (lfPo a b kk i m f)) (nrmP (fun _=>spPo) 9 [8]) =
  brK (decide (i < (a.length:Int))) (brK (propB ((0:Int)=0∧0≤i∧i < (a.length:Int)∧kk=a.length+b.length∧m=a.length+b.length∧f=castF (colG a b i.toNat)∧a.all isDg=true∧b.all isDg=true∧a.length < 2 ^ 29∧b.length < 2 ^ 29))
   (some (.normal,lfPo a b (a.length+b.length) (W (i+1)) (a.length+b.length) (castF (colG a b (i.toNat+1))))) none) (some (.exit 0,lfPo a b kk i m f)):=by kernel_rfl
theorem roundPc (kk k2:Nat) (c i:Int) (m:Nat) (f:Nat→Int) (m2:Nat) (g:Nat→Int):execK prog (runK prog lib2 60) noBps bodyPc (spPc.rho (lfPc kk k2 c i m f m2 g)) (spPc.heap (lfPc kk k2 c i m f m2 g)) (nrmP (fun _=>spPc) 10 [9]) =
  brK (decide (i ≥ 0)) (brK (decide (0≤i∧i < (kk:Int)) && decide (0≤0)) (brK (decide (0+i.toNat < m)) (brK (decide (0≤i∧i < (k2:Int)) && decide (0≤0)) (brK (decide (0+i.toNat < m2))
   (some (.normal,lfPc kk k2 (W ((W (c+f (0+i.toNat))).tdiv 10)) (W (i - 1)) m f m2 (updF g (0+i.toNat) (IntKind.u8.wrap (W (48+(W (c+f (0+i.toNat))).tmod 10)))))) none) none) none) none)
   (some (.exit 4,lfPc kk k2 c i m f m2 g)):=by kernel_rfl
def lfPcj (g:Nat→Nat) (L j:Nat):List Lf:=lfPc L L (tW g L j / 10 ^ j:Nat) ((L:Int) - 1 - j) L (castF g) L (outF L (hW g L) j)
theorem stepPc {g:Nat→Nat} {L j:Nat} (hg:∀ x,g x≤2 ^ 40) (hL:L < 2147483648) (hj:j < L) :
  execK prog (runK prog lib2 60) noBps bodyPc (spPc.rho (lfPcj g L j)) (spPc.heap (lfPcj g L j)) (nrmP (fun _=>spPc) 10 [9])=some (.normal,lfPcj g L (j+1)):=by
 unfold lfPcj
 have hi:(L:Int) - 1 - (j:Int)=((L - 1 - j:Nat):Int):=by omega
 have hc:=tW_le (L:=L) hg j
 have hx:=hg (L - 1 - j)
 have hd:=tW_digit g L j hj
 have hn:=tW_next g L j
 have e2:castF g (L - 1 - j)=((g (L - 1 - j):Nat):Int):=rfl
 rw [roundPc,hi,Int.toNat_natCast,Nat.zero_add,e2,← Int.natCast_add,W_nat (n:=tW g L j / 10 ^ j+g (L - 1 - j)) (by omega)]
 have e3:(((tW g L j / 10 ^ j+g (L - 1 - j):Nat):Int)).tdiv 10=(((tW g L j / 10 ^ j+g (L - 1 - j)) / 10:Nat):Int):=by
  rw [Int.tdiv_eq_ediv_of_nonneg (Int.natCast_nonneg _)]; rfl
 have e4:(((tW g L j / 10 ^ j+g (L - 1 - j):Nat):Int)).tmod 10=(((tW g L j / 10 ^ j+g (L - 1 - j)) % 10:Nat):Int):=by
  rw [Int.tmod_eq_emod_of_nonneg (Int.natCast_nonneg _)]; rfl
 rw [e3,e4,hd,hn]
 have hlt:hW g L / 10 ^ j % 10 < 10:=Nat.mod_lt _ (by decide)
 have hcn:=tW_le (L:=L) hg (j+1)
 have e5:(48:Int)+((hW g L / 10 ^ j % 10:Nat):Int)=((48+hW g L / 10 ^ j % 10:Nat):Int):=by omega
 rw [e5,W_nat (n:=48+hW g L / 10 ^ j % 10) (by omega),wrap8_nat (n:=48+hW g L / 10 ^ j % 10) (by omega),outF_succ hj,W_nat (n:=tW g L (j+1) / 10 ^ (j+1)) (by omega),W_id (by omega) (by omega),
  decide_eq_true (show ((L - 1 - j:Nat):Int) ≥ 0 by omega),decide_eq_true (show 0≤((L - 1 - j:Nat):Int)∧((L - 1 - j:Nat):Int) < (L:Int) by omega),decide_eq_true (show L - 1 - j < L by omega)]
 have h2:((L - 1 - j:Nat):Int) - 1=(L:Int) - 1 - ((j+1:Nat):Int):=by omega
 rw [h2]
 rfl
noncomputable def hookPo:Blk:=hookP spPo 9 [8] fun
 | [.s a,.s b,.n kk,.i i,.n m,.f f] =>
  .br (propB (i=0∧kk=a.length+b.length∧m=a.length+b.length∧(f=fun _=>0)∧a.all isDg=true∧b.all isDg=true∧a.length < 2 ^ 29∧b.length < 2 ^ 29)) (.leaf (.normal,spPo,lfPo a b (a.length+b.length) a.length (a.length+b.length) (castF (colG a b a.length)))) .fail
 | _=>.fail
noncomputable def hookPc (g:Nat→Nat):Blk:=hookP spPc 10 [9] fun
 | [.n kk,.n k2,.i c,.i i,.n m,.f f,.n m2,.f h] =>
  .br (propB (kk=m∧k2=m∧c=0∧i=(m:Int) - 1∧m2=m∧f=castF g∧(h=fun _=>0)∧m < 2147483648∧∀ x,g x≤2 ^ 40)) (.leaf (.normal,spPc,lfPcj g m m)) .fail
 | _=>.fail
noncomputable def pR7b (g:Nat→Nat):Prims:=(pR6.addb 154 0 hookPo).addb 154 4 (hookPc g)
section
variable {A:Amb} (hT:Tab A) (hG:prog.globals.size≤A.G)
include hT hG
omit hG in
theorem hookPi_ok:∀ ρ B e' ρ' B' D,(hookPi ρ B).get=some (e',ρ',B',D)→AFr B B' D∧SEB prog A B (.block 2 (.loop bodyPi)) ⟨ρ,B,[]⟩ e' ⟨ρ',B',D⟩:=by
 have hp:=lib2_ok hT
 refine hookP_ok rfl fun ls e sq l h=>?_
 split at h
 ·rename_i a b kk i k m f
  obtain ⟨hc,hv⟩:=Tr.br1 h
  cases hv
  obtain ⟨rfl,hi,hi2,rfl,rfl,rfl,ha,hb,la,lb⟩:=propB_eq hc
  obtain ⟨i,rfl⟩:=Int.eq_ofNat_of_zero_le hi
  rw [Int.toNat_natCast]
  refine ⟨⟨.inr rfl,.inr rfl,.inr rfl,.inr rfl,.inr rfl,.inr rfl,.inr rfl,.inr rfl,.inl rfl,trivial⟩,fun Bb hB=>SEB.block_exit (id:=2) ?_⟩
  refine SEB.loop_nat (A:=A) (B0:=Bb) (c:=bodyPi) (I:=fun k=>⟨spPi.rho (lfPi a b (a.length+b.length) i k (a.length+b.length) (castF (rowG b (dg a i) i (colG a b i) k))),spPi.heap (lfPi a b (a.length+b.length) i k (a.length+b.length) (castF (rowG b (dg a i) i (colG a b i) k))),[8]⟩) (N:=b.length)
   (fun k hk=>SEB.of_KP (A:=A) (B0:=Bb) (e:=.normal) hmix hnum hp (.none _) hB (stepPi ha hb la lb (by omega) hk) rfl) ?_ (by simp) (i:=0) (Nat.zero_le _)
  have hr:=roundPi a b (a.length+b.length) i b.length (a.length+b.length) (castF (colG a b (i+1)))
  rw [decide_eq_false (show ¬ (b.length:Int) < (b.length:Int) by omega)] at hr
  exact SEB.of_KP (A:=A) (B0:=Bb) (e:=.exit 2) hmix hnum hp (.none _) hB hr rfl
 ·cases h
theorem pR7b_ok (g:Nat→Nat):PrimOK prog A (pR7b g):=by
 have hp:=lib2_ok hT
 have hblk:BlkOK prog A (oneB 2 hookPi) bodyPo:=BlkOK.one (body:=.loop bodyPi) (by kernel_rfl) fun ρ B e ρ' B' D hq=>(hookPi_ok hT ρ B e ρ' B' D hq).2
 refine PrimOK.addbP (PrimOK.addbP (pR6_ok hT hG) func154 (show f154.body=some code123 by kernel_rfl) (body:=.loop bodyPo) (by kernel_rfl) (by kernel_rfl) fun ls e sq l h=>?_) func154 (show f154.body=some code123 by kernel_rfl) (body:=.loop bodyPc) (by kernel_rfl) (by kernel_rfl) fun ls e sq l h=>?_
 ·split at h
  ·rename_i a b kk i m f
   obtain ⟨hc,hv⟩:=Tr.br1 h
   cases hv
   obtain ⟨rfl,rfl,rfl,rfl,ha,hb,la,lb⟩:=propB_eq hc
   refine ⟨⟨.inr rfl,.inr rfl,.inr rfl,.inr rfl,.inr rfl,.inr rfl,.inr rfl,.inr rfl,.inl rfl,trivial⟩,fun Bb hB=>SEB.block_exit (id:=0) ?_⟩
   have e0:(fun _=>0:Nat→Int)=castF (colG a b 0):=rfl
   rw [e0]
   refine SEB.loop_nat (A:=A) (B0:=Bb) (c:=bodyPo) (I:=fun i=>⟨spPo.rho (lfPo a b (a.length+b.length) i (a.length+b.length) (castF (colG a b i))),spPo.heap (lfPo a b (a.length+b.length) i (a.length+b.length) (castF (colG a b i))),[8]⟩) (N:=a.length) (fun i hi=>?_) ?_ (by simp) (i:=0) (Nat.zero_le _)
   ·have hr:=roundPo a b (a.length+b.length) i (a.length+b.length) (castF (colG a b i))
    rw [Int.toNat_natCast,decide_eq_true (show (i:Int) < (a.length:Int) by omega),propB_true ⟨rfl,by omega,by omega,rfl,rfl,rfl,ha,hb,la,lb⟩,W_id (by omega) (by omega)] at hr
    exact SEB.of_KP (A:=A) (B0:=Bb) (e:=.normal) hmix hnum hp hblk hB hr rfl
   ·have hr:=roundPo a b (a.length+b.length) a.length (a.length+b.length) (castF (colG a b a.length))
    rw [decide_eq_false (show ¬ (a.length:Int) < (a.length:Int) by omega)] at hr
    exact SEB.of_KP (A:=A) (B0:=Bb) (e:=.exit 0) hmix hnum hp hblk hB hr rfl
  ·cases h
 ·split at h
  ·rename_i k1 k2 c i m f m2 g2
   obtain ⟨hc,hv⟩:=Tr.br1 h
   cases hv
   obtain ⟨rfl,rfl,rfl,rfl,rfl,rfl,rfl,hL,hg⟩:=propB_eq hc
   refine ⟨⟨.inr rfl,.inr rfl,.inr rfl,.inr rfl,.inr rfl,.inr rfl,.inr rfl,.inr rfl,.inr rfl,.inl rfl,trivial⟩,fun Bb hB=>SEB.block_exit (id:=4) ?_⟩
   have e0:∀ L:Nat,([.n L,.n L,.i 0,.i ((L:Int) - 1),.n L,.f (castF g),.n L,.f fun _=>0]:List Lf)=lfPcj g L 0:=fun L=>by
    unfold lfPcj lfPc
    rw [outF_zero]
    simp [tW]
   rw [e0]
   refine SEB.loop_nat (A:=A) (B0:=Bb) (c:=bodyPc) (I:=fun j=>⟨spPc.rho (lfPcj g m2 j),spPc.heap (lfPcj g m2 j),[9]⟩) (N:=m2) (fun j hj=>SEB.of_KP (A:=A) (B0:=Bb) (e:=.normal) hmix hnum hp (.none _) hB (stepPc hg hL hj) rfl) ?_ (by simp) (i:=0) (Nat.zero_le _)
   have hr:execK prog (runK prog lib2 60) noBps bodyPc (spPc.rho (lfPcj g m2 m2)) (spPc.heap (lfPcj g m2 m2)) (nrmP (fun _=>spPc) 10 [9])=some (.exit 4,lfPcj g m2 m2):=by
    unfold lfPcj
    rw [roundPc,decide_eq_false (show ¬ (m2:Int) - 1 - (m2:Int) ≥ 0 by omega)]
    rfl
   exact SEB.of_KP (A:=A) (B0:=Bb) (e:=.exit 4) hmix hnum hp (.none _) hB hr rfl
  ·cases h
end
noncomputable abbrev treePr (a b:List UInt8) (g:Nat→Nat) (L:Int):Option (List Lf) :=
 brK (decide (0≤L∧L=L∧L < 2147483648)) (brK (propB ((0:Int)=0∧L.toNat=a.length+b.length∧L.toNat=a.length+b.length∧((fun _=>0:Nat→Int)=fun _=>0)∧a.all isDg=true∧b.all isDg=true∧a.length < 2 ^ 29∧b.length < 2 ^ 29))
  (brK (decide (0≤((a.length+b.length:Nat):Int)∧((a.length+b.length:Nat):Int)=((a.length+b.length:Nat):Int)∧((a.length+b.length:Nat):Int) < 2147483648))
   (brK (propB (a.length+b.length=a.length+b.length∧((a.length+b.length:Nat):Int).toNat=a.length+b.length∧(0:Int)=0∧W (((a.length+b.length:Nat):Int) - 1)=((a.length+b.length:Nat):Int) - 1∧((a.length+b.length:Nat):Int).toNat=a.length+b.length∧castF (colG a b a.length)=castF g∧((fun _=>0:Nat→Int)=fun _=>0)∧a.length+b.length < 2147483648∧∀ x,g x≤2 ^ 40))
    (brK (decide (0≤0) && decide (0+(a.length+b.length)≤a.length+b.length)) (some [.s (bareS (txtF (a.length+b.length) (outF (a.length+b.length) (hW g (a.length+b.length)) (a.length+b.length))))]) none) none) none) none) none
theorem run123 (a b:List UInt8) (g:Nat→Nat):(runK prog (pR7b g) 60).call 154 (spSS.rho [.s a,.s b]) (spSS.heap [.s a,.s b]) (finP spS1 8 [])=treePr a b g (W ((a.length:Int)+(b.length:Int))):=by kernel_rfl
theorem treePr_eq {a b:List UInt8} (ha:a.all isDg=true) (hb:b.all isDg=true) (hn:a ≠ []) (la:a.length < 2 ^ 29) (lb:b.length < 2 ^ 29) :
  treePr a b (colG a b a.length) (W ((a.length:Int)+(b.length:Int)))=some [.s (itoa (digW 0 a*digW 0 b:Nat))]:=by
 have e1:W ((a.length:Int)+(b.length:Int))=((a.length+b.length:Nat):Int):=by rw [W_id (by omega) (by omega)]; omega
 have hg:∀ x,colG a b a.length x≤2 ^ 40:=fun x=>by
  have:=col_le ha hb a.length x
  omega
 have hpos:0 < a.length:=by cases a with | nil=>exact (hn rfl).elim | cons=>simp
 have hlt:digW 0 a*digW 0 b < 10 ^ (a.length+b.length):=by
  rw [Nat.pow_add]
  exact Nat.mul_lt_mul'' (digW_lt a ha) (digW_lt b hb)
 have hbare:bareS (pad (a.length+b.length) (digW 0 a*digW 0 b))=itoa (digW 0 a*digW 0 b:Nat):=by
  rw [bareS_itoa (by intro e; have:=pad_length (a.length+b.length) (digW 0 a*digW 0 b); rw [e] at this; simp at this; omega) (pad_all _ _),digV_W,digW_pad,Nat.mod_eq_of_lt hlt]
 unfold treePr
 rw [e1,Int.toNat_natCast,col_prod]
 generalize hL:a.length+b.length=L at *
 have ht:txtF L (outF L (digW 0 a*digW 0 b) L)=pad L (digW 0 a*digW 0 b):=by
  rw [← outF_text]
  unfold txtF
  simp only [Nat.zero_add]
 rw [ht,hbare,decide_eq_true (show 0≤(L:Int)∧(L:Int)=(L:Int)∧(L:Int) < 2147483648 by omega),propB_true (show (0:Int)=0∧L=L∧L=L∧((fun _=>0:Nat→Int)=fun _=>0)∧a.all isDg=true∧b.all isDg=true∧a.length < 2 ^ 29∧b.length < 2 ^ 29 from ⟨rfl,rfl,rfl,rfl,ha,hb,la,lb⟩),
  propB_true (show L=L∧L=L∧(0:Int)=0∧W ((L:Int) - 1)=(L:Int) - 1∧L=L∧castF (colG a b a.length)=castF (colG a b a.length)∧((fun _=>0:Nat→Int)=fun _=>0)∧L < 2147483648∧∀ x,colG a b a.length x≤2 ^ 40 from ⟨rfl,rfl,rfl,by rw [W_id (by omega) (by omega)],rfl,rfl,rfl,by omega,hg⟩),
  decide_eq_true (show 0+L≤L by omega)]
 rfl
noncomputable def T123:List Lf→Tr (SP × List Lf)
 | [.s a,.s b]=>.br (propB (a.all isDg=true∧b.all isDg=true∧a ≠ []∧a.length < 2 ^ 29∧b.length < 2 ^ 29)) (.leaf (spS1,[.s (itoa (digW 0 a*digW 0 b:Nat))])) .fail
 | _=>.fail
noncomputable def pR7:Prims:=pR6.addh 154 (liftG 8 (funP spSS 8 [] T123))
theorem pR7_ok {A:Amb} (hT:Tab A) (hG:prog.globals.size≤A.G):PrimOK prog A pR7:=by
 refine (pR6_ok hT hG).addl gsz func154 (by kernel_rfl) (funP_ok hmix hnum rfl fun ls sq l h=>?_)
 unfold T123 at h
 split at h
 ·rename_i a b
  obtain ⟨hc,hv⟩:=Tr.br1 h
  cases hv
  obtain ⟨ha,hb,hn,la,lb⟩:=propB_eq hc
  exact ⟨⟨.inr rfl,.inr rfl,.inr rfl,.inr rfl,.inr rfl,.inr rfl,.inr rfl,.inr rfl,trivial⟩,rfl,rfl,pR7b (colG a b a.length),60,pR7b_ok hT hG _,(run123 a b _).trans (treePr_eq ha hb hn la lb)⟩
 ·cases h
end Go.Proofs.Tryz
namespace Go.Proofs.Tryz
open Go.Ad
open Go.Lib (decDigits itoa nDigits decFrom digitVal)
theorem run142 (a b:List UInt8):(runK prog lib2 60).call 122 [.sstr a,.sstr b] (Bg 8) finV =
  brK (decide ((a.length:Int) < (b.length:Int))) (some (.bool true)) (brK ((a.length:Int) == (b.length:Int)) (some (.sbool (Op.bytesLess a b))) (some (.bool false))):=by kernel_rfl
noncomputable def T142:List Lf→Tr AV
 | [.s a,.s b]=>.br (propB (a=itoa (digW 0 a:Nat)∧b=itoa (digW 0 b:Nat))) (.leaf (.sbool (decide (digW 0 a < digW 0 b)))) .fail
 | _=>.fail
noncomputable def pR8:Prims:=pR7.addt 122 (gP [.str,.str] T142)
theorem pR8_ok {A:Amb} (hT:Tab A) (hG:prog.globals.size≤A.G):PrimOK prog A pR8:=by
 refine PrimOK.addP hmix hnum (lib2_ok hT) (pR7_ok hT hG) hG func122 (by kernel_rfl) fun ls v h=>?_
 unfold T142 at h
 split at h
 ·rename_i a b
  obtain ⟨hc,hv⟩:=Tr.br1 h
  cases hv
  obtain ⟨ha,hb⟩:=propB_eq hc
  have hl:=less_dec (digW 0 a) (digW 0 b)
  rw [← itoaN,← itoaN,← ha,← hb] at hl
  have hk:=run142 a b
  have fin:∀ v',(runK prog lib2 60).call 122 [.sstr a,.sstr b] (Bg 8) finV=some v'→below 0 v'=true→(∀ ι x,VR ι v' x→VR ι (.sbool (decide (digW 0 a < digW 0 b))) x) →
    belowL 0 (mkT [.str,.str] [.s a,.s b]).1=true∧∃ n v',(runK prog lib2 n).call 122 (mkT [.str,.str] [.s a,.s b]).1 (Bg prog.globals.size) finV=some v'∧below 0 v'=true∧∀ ι x,VR ι v' x→VR ι (.sbool (decide (digW 0 a < digW 0 b))) x:=fun v' h1 h2 h3 =>
   ⟨rfl,60,v',by rw [gsz]; exact h1,h2,h3⟩
  by_cases h1:a.length < b.length
  ·rw [decide_eq_true (show (a.length:Int) < (b.length:Int) by omega)] at hk
   rw [decide_eq_true h1] at hl
   exact fin _ hk rfl fun ι x=>vr_bool (by rw [← hl]; rfl) x
  ·rw [decide_eq_false (show ¬ (a.length:Int) < (b.length:Int) by omega)] at hk
   rw [decide_eq_false h1] at hl
   by_cases h2:a.length=b.length
   ·rw [show ((a.length:Int) == (b.length:Int))=true by rw [beq_iff_eq]; omega] at hk
    rw [decide_eq_true h2] at hl
    exact fin _ hk rfl fun ι x=>vr_sbool (by rw [← hl]; rfl) x
   ·rw [show ((a.length:Int) == (b.length:Int))=false by rw [beq_eq_false_iff_ne]; omega] at hk
    rw [decide_eq_false h2] at hl
    exact fin _ hk rfl fun ι x=>vr_bool (by rw [← hl]; rfl) x
 ·cases h
noncomputable def code118:Code:=f155.body.getD .skip
noncomputable def bodyDi:Code:=unLoop (findB 2 code118)
noncomputable def bodyDo:Code:=unLoop (findB 0 code118)
def spDi:SP:=⟨[.str,.str]++dr 4++[.str,.str,.int .i64,.int .u8]++dr 31,dd8⟩
def spDo:SP:=⟨[.str,.str]++dr 4++[.str,.str,.int .i64]++dr 32,dd8⟩
def lfDi (a b q r:List UInt8) (i d:Int):List Lf:=[.s a,.s b,.s q,.s r,.i i,.i d]
def lfDo (a b q r:List UInt8) (i:Int):List Lf:=[.s a,.s b,.s q,.s r,.i i]
theorem roundDi (a b q r:List UInt8) (i d:Int):execK prog (runK prog pR8 60) noBps bodyDi (spDi.rho (lfDi a b q r i d)) (spDi.heap (lfDi a b q r i d)) (nrmP (fun _=>spDi) 8 []) =
  brK (propB (r=itoa (digW 0 r:Nat)∧b=itoa (digW 0 b:Nat))) (brK (!(decide (digW 0 r < digW 0 b))) (brK (propB (r.all isDg=true∧b.all isDg=true∧r.length < 2 ^ 30∧b.length < 2 ^ 30∧(false=false→digW 0 b≤digW 0 r)))
   (some (.normal,lfDi a b q (itoa (sumN false (digW 0 r) (digW 0 b):Nat)) i (IntKind.u8.wrap (d+1)))) none) (some (.exit 2,lfDi a b q r i d))) none:=by kernel_rfl
theorem stepDi {a q:List UInt8} {i:Int} {B R d:Nat} (hB:(itoa (B:Int)).length < 2 ^ 28) (hR:(itoa (R:Int)).length < 2 ^ 29) (hd:d < 100) :
  execK prog (runK prog pR8 60) noBps bodyDi (spDi.rho (lfDi a (itoa (B:Nat)) q (itoa (R:Nat)) i (48+d:Nat))) (spDi.heap (lfDi a (itoa (B:Nat)) q (itoa (R:Nat)) i (48+d:Nat))) (nrmP (fun _=>spDi) 8 []) =
  if R < B then some (.exit 2,lfDi a (itoa (B:Nat)) q (itoa (R:Nat)) i (48+d:Nat)) else some (.normal,lfDi a (itoa (B:Nat)) q (itoa (R - B:Nat)) i (48+(d+1):Nat)):=by
 rw [roundDi,digW_itoa,digW_itoa,propB_true ⟨rfl,rfl⟩,brK_t]
 by_cases h:R < B
 ·rw [if_pos h,decide_eq_true h]; rfl
 ·have e:((48+d:Nat):Int)+1=((48+(d+1):Nat):Int):=by omega
  rw [if_neg h,decide_eq_false h,propB_true ⟨itoaN_all R,itoaN_all B,by omega,by omega,fun _=>by omega⟩,e,wrap8_nat (by omega)]; rfl
noncomputable def hookDi:Blk:=hookP spDi 8 [] fun
 | [.s a,.s b,.s q,.s r,.i i,.i d]=>.br (propB (d=48∧b=itoa (digW 0 b:Nat)∧r=itoa (digW 0 r:Nat)∧0 < digW 0 b∧digW 0 r / digW 0 b < 10∧b.length < 2 ^ 28∧r.length < 2 ^ 29))
  (.leaf (.normal,spDi,lfDi a b q (itoa (digW 0 r % digW 0 b:Nat)) i (48+digW 0 r / digW 0 b:Nat))) .fail
 | _=>.fail
theorem len_mono {V U:Nat} (h:V≤U):(itoa (V:Int)).length≤(itoa (U:Int)).length:=by
 rw [itoaN,itoaN]; exact dec_len_mono h
theorem hookDi_ok {A:Amb} (hT:Tab A) (hG:prog.globals.size≤A.G):∀ ρ B e' ρ' B' D,(hookDi ρ B).get=some (e',ρ',B',D)→AFr B B' D∧SEB prog A B (.block 2 (.loop bodyDi)) ⟨ρ,B,[]⟩ e' ⟨ρ',B',D⟩:=by
 have hp:=pR8_ok hT hG
 refine hookP_ok rfl fun ls e sq l h=>?_
 split at h
 ·rename_i a b q r i d
  obtain ⟨hc,hv⟩:=Tr.br1 h
  cases hv
  obtain ⟨rfl,hb,hr,hB,hq,lb,lr⟩:=propB_eq hc
  generalize digW 0 b=B at *
  generalize digW 0 r=R at *
  subst hb hr
  refine ⟨⟨.inr rfl,.inr rfl,.inr rfl,.inr rfl,.inr rfl,.inr rfl,.inr rfl,.inr rfl,trivial⟩,fun Bb hBb=>SEB.block_exit (id:=2) ?_⟩
  refine SEB.while (fun s:Nat × Nat=>s.1≤R∧s.2+s.1 / B=R / B∧s.1 % B=R % B) (fun s=>s.1) (fun s=>⟨spDi.rho (lfDi a (itoa (B:Nat)) q (itoa (s.1:Nat)) i (48+s.2:Nat)),spDi.heap (lfDi a (itoa (B:Nat)) q (itoa (s.1:Nat)) i (48+s.2:Nat)),[]⟩)
   (fun _=>(.exit 2,⟨spDi.rho (lfDi a (itoa (B:Nat)) q (itoa (R % B:Nat)) i (48+R / B:Nat)),spDi.heap (lfDi a (itoa (B:Nat)) q (itoa (R % B:Nat)) i (48+R / B:Nat)),[]⟩)) (fun s hs=>?_) (R,0) ⟨Nat.le_refl _,Nat.zero_add _,rfl⟩
  obtain ⟨S,d⟩:=s
  obtain ⟨h1,h2,h3⟩:=hs
  simp only at h1 h2 h3
  have hdle:d≤R / B:=by rw [← h2]; exact Nat.le_add_right _ _
  have hk:=stepDi (a:=a) (q:=q) (i:=i) (B:=B) (R:=S) (d:=d) lb (Nat.lt_of_le_of_lt (len_mono h1) lr) (by omega)
  by_cases hlt:S < B
  ·rw [if_pos hlt] at hk
   rw [Nat.div_eq_of_lt hlt,Nat.add_zero] at h2
   rw [Nat.mod_eq_of_lt hlt] at h3
   right
   refine ⟨by simp,?_⟩
   rw [← h2,← h3]
   exact SEB.of_KP (A:=A) (B0:=Bb) (e:=.exit 2) hmix hnum hp (.none _) hBb hk rfl
  ·rw [if_neg hlt] at hk
   left
   refine ⟨(S - B,d+1),⟨by simp only; omega,?_,?_⟩,by simp only; omega,rfl,SEB.of_KP (A:=A) (B0:=Bb) (e:=.normal) hmix hnum hp (.none _) hBb hk rfl⟩
   ·simp only
    have:=Nat.div_eq_sub_div hB (show B≤S by omega)
    omega
   ·simp only
    rw [← h3,Nat.mod_eq_sub_mod (show B≤S by omega)]
 ·cases h
theorem roundDo (a b q r:List UInt8) (i:Int):execK prog (runK prog pR8 60) (oneB 2 hookDi) bodyDo (spDo.rho (lfDo a b q r i)) (spDo.heap (lfDo a b q r i)) (nrmP (fun _=>spDo) 8 []) =
  brK (decide (i < (a.length:Int))) (brK (decide (0≤W (i+1)∧W (i+1)≤(a.length:Int)) && decide (0≤i∧i≤((W (i+1)).toNat:Int))) (brK (decide (r.length+((a.take (W (i+1)).toNat).drop i.toNat).length < 4611686018427387904))
   ((fun r':List UInt8=>brK (propB ((48:Int)=48∧b=itoa (digW 0 b:Nat)∧r'=itoa (digW 0 r':Nat)∧0 < digW 0 b∧digW 0 r' / digW 0 b < 10∧b.length < 2 ^ 28∧r'.length < 2 ^ 29)) (brK (decide (q.length+1 < 4611686018427387904))
    (some (.normal,lfDo a b (q++[UInt8.ofNat ((48+digW 0 r' / digW 0 b:Nat):Int).toNat]) (itoa (digW 0 r' % digW 0 b:Nat)) (W (i+1)))) none) none) (bareS (r++(a.take (W (i+1)).toNat).drop i.toNat))) none) none)
   (some (.exit 0,lfDo a b q r i)):=by kernel_rfl
def lfDj (a:List UInt8) (B i:Nat):List Lf:=lfDo a (itoa (B:Nat)) (pad i (digW 0 (a.take i) / B)) (itoa (digW 0 (a.take i) % B:Nat)) i
theorem stepDo {a:List UInt8} {B i:Nat} (ha:a.all isDg=true) (hB:0 < B) (lB:(itoa (B:Int)).length < 2 ^ 28) (la:a.length < 2 ^ 28) (hi:i < a.length) :
  execK prog (runK prog pR8 60) (oneB 2 hookDi) bodyDo (spDo.rho (lfDj a B i)) (spDo.heap (lfDj a B i)) (nrmP (fun _=>spDo) 8 [])=some (.normal,lfDj a B (i+1)):=by
 unfold lfDj
 have e1:W ((i:Int)+1)=((i+1:Nat):Int):=by rw [W_id (by omega) (by omega)]; omega
 have hd:=dg_le ha i
 have hmod:=Nat.mod_lt (digW 0 (a.take i)) hB
 have hsl:(a.take (i+1)).drop i=[a.getD i 0]:=by
  rw [List.take_add_one,List.getElem?_eq_getElem hi,List.drop_append,List.drop_eq_nil_of_le (by simp; omega),List.length_take,Nat.min_eq_left (by omega),Nat.sub_self,List.getD_eq_getElem?_getD,List.getElem?_eq_getElem hi]
  rfl
 have hdg:isDg (a.getD i 0)=true:=by
  rw [List.getD_eq_getElem?_getD,List.getElem?_eq_getElem hi]
  exact List.all_eq_true.1 ha _ (List.getElem_mem hi)
 obtain ⟨d1,d2,d3⟩:=div_digit (A:=digW 0 (a.take i)) hB (show dg a i < 10 by omega)
 rw [roundDo,e1,Int.toNat_natCast,Int.toNat_natCast,hsl,take_step hi]
 generalize hA:digW 0 (a.take i)=X at *
 have hr:bareS (itoa (X % B:Nat)++[a.getD i 0])=itoa (X % B*10+dg a i:Nat):=by
  rw [bareS_itoa (by simp) (by rw [List.all_append,itoaN_all]; simp only [List.all_cons,List.all_nil,hdg,Bool.and_self]),digV_W,digW_append,digW_itoa]
  rfl
 have hlt:X % B*10+dg a i < 10 ^ ((itoa (B:Int)).length+1):=by
  have:=itoaN_lt B
  rw [Nat.pow_succ]
  omega
 have hlen:=itoaN_len hlt (by omega)
 have hlr:(itoa ((X % B:Nat):Int)).length≤(itoa (B:Int)).length:=len_mono (by omega)
 have e2:((48+(X % B*10+dg a i) / B:Nat):Int).toNat=48+(X % B*10+dg a i) / B:=Int.toNat_natCast _
 rw [hr]
 dsimp only
 rw [digW_itoa,digW_itoa,e2,pad_snoc d3,← d1,← d2,pad_length,decide_eq_true (show (i:Int) < (a.length:Int) by omega),decide_eq_true (show 0≤((i+1:Nat):Int)∧((i+1:Nat):Int)≤(a.length:Int) by omega),decide_eq_true (show 0≤(i:Int)∧(i:Int)≤((i+1:Nat):Int) by omega),
  decide_eq_true (show (itoa ((X % B:Nat):Int)).length+[a.getD i 0].length < 4611686018427387904 by rw [List.length_singleton]; omega)]
 simp only [Bool.and_self,brK_t]
 rw [propB_true ⟨trivial,trivial,trivial,hB,d3,lB,by omega⟩,decide_eq_true (show i+1 < 4611686018427387904 by omega)]
 rfl
noncomputable def hookDo:Blk:=hookP spDo 8 [] fun
 | [.s a,.s b,.s q,.s r,.i i]=>.br (propB (i=0∧q=[]∧r=[48]∧a.all isDg=true∧b=itoa (digW 0 b:Nat)∧0 < digW 0 b∧a.length < 2 ^ 28∧b.length < 2 ^ 28)) (.leaf (.normal,spDo,lfDj a (digW 0 b) a.length)) .fail
 | _=>.fail
noncomputable def pR9b:Prims:=pR8.addb 155 0 hookDo
theorem pR9b_ok {A:Amb} (hT:Tab A) (hG:prog.globals.size≤A.G):PrimOK prog A pR9b:=by
 have hp:=pR8_ok hT hG
 have hblk:BlkOK prog A (oneB 2 hookDi) bodyDo:=BlkOK.one (body:=.loop bodyDi) (by kernel_rfl) fun ρ B e ρ' B' D hq=>(hookDi_ok hT hG ρ B e ρ' B' D hq).2
 refine PrimOK.addbP hp func155 (show f155.body=some code118 by kernel_rfl) (body:=.loop bodyDo) (by kernel_rfl) (by kernel_rfl) fun ls e sq l h=>?_
 split at h
 ·rename_i a b q r i
  obtain ⟨hc,hv⟩:=Tr.br1 h
  cases hv
  obtain ⟨rfl,rfl,rfl,ha,hb,hB,la,lb⟩:=propB_eq hc
  generalize digW 0 b=B at *
  subst hb
  refine ⟨⟨.inr rfl,.inr rfl,.inr rfl,.inr rfl,.inr rfl,.inr rfl,.inr rfl,.inr rfl,trivial⟩,fun Bb hBb=>SEB.block_exit (id:=0) ?_⟩
  have e0:([.s a,.s (itoa (B:Nat)),.s [],.s [48],.i 0]:List Lf)=lfDj a B 0:=by
   unfold lfDj lfDo
   rw [show digW 0 (a.take 0)=0 from rfl,Nat.zero_mod,show ((0:Nat):Int)=0 from rfl,itoa0]; rfl
  rw [e0]
  refine SEB.loop_nat (A:=A) (B0:=Bb) (c:=bodyDo) (I:=fun j=>⟨spDo.rho (lfDj a B j),spDo.heap (lfDj a B j),[]⟩) (N:=a.length) (fun j hj=>SEB.of_KP (A:=A) (B0:=Bb) (e:=.normal) hmix hnum hp hblk hBb (stepDo ha hB lb la hj) rfl) ?_ (by simp) (i:=0) (Nat.zero_le _)
  have hr:execK prog (runK prog pR8 60) (oneB 2 hookDi) bodyDo (spDo.rho (lfDj a B a.length)) (spDo.heap (lfDj a B a.length)) (nrmP (fun _=>spDo) 8 [])=some (.exit 0,lfDj a B a.length):=by
   unfold lfDj
   rw [roundDo,decide_eq_false (show ¬ (a.length:Int) < (a.length:Int) by omega)]
   rfl
  exact SEB.of_KP (A:=A) (B0:=Bb) (e:=.exit 0) hmix hnum hp hblk hBb hr rfl
 ·cases h
theorem run118 (a b:List UInt8):(runK prog pR9b 60).call 155 (spSS.rho [.s a,.s b]) (spSS.heap [.s a,.s b]) (finQ spSS 8 []) =
  brK (propB ((0:Int)=0∧([]:List UInt8)=[]∧([48]:List UInt8)=[48]∧a.all isDg=true∧b=itoa (digW 0 b:Nat)∧0 < digW 0 b∧a.length < 2 ^ 28∧b.length < 2 ^ 28))
   (some [.s (bareS (pad a.length (digW 0 (a.take a.length) / digW 0 b))),.s (itoa (digW 0 (a.take a.length) % digW 0 b:Nat))]) none:=by kernel_rfl
noncomputable def T118:List Lf→Tr (SP × List Lf)
 | [.s a,.s b]=>.br (propB (a.all isDg=true∧a ≠ []∧b=itoa (digW 0 b:Nat)∧0 < digW 0 b∧a.length < 2 ^ 28∧b.length < 2 ^ 28)) (.leaf (spSS,[.s (itoa (digW 0 a / digW 0 b:Nat)),.s (itoa (digW 0 a % digW 0 b:Nat))])) .fail
 | _=>.fail
noncomputable def pR9:Prims:=pR8.addh 155 (liftG 8 (funQ spSS 8 [] T118))
theorem pR9_ok {A:Amb} (hT:Tab A) (hG:prog.globals.size≤A.G):PrimOK prog A pR9:=by
 refine (pR8_ok hT hG).addl gsz func155 (by kernel_rfl) (funQ_ok hmix hnum rfl fun ls sq l h=>?_)
 unfold T118 at h
 split at h
 ·rename_i a b
  obtain ⟨hc,hv⟩:=Tr.br1 h
  cases hv
  obtain ⟨ha,hn,hb,hB,la,lb⟩:=propB_eq hc
  refine ⟨⟨.inr rfl,.inr rfl,.inr rfl,.inr rfl,.inr rfl,.inr rfl,.inr rfl,.inr rfl,trivial⟩,rfl,pR9b,60,_,pR9b_ok hT hG,(run118 a b).trans ?_,fun _ _=>.refl⟩
  have hpos:0 < a.length:=by cases a with | nil=>exact (hn rfl).elim | cons=>simp
  rw [propB_true ⟨rfl,rfl,rfl,ha,hb,hB,la,lb⟩,brK_t,List.take_length,bareS_itoa (by intro e; have:=pad_length a.length (digW 0 a / digW 0 b); rw [e] at this; simp at this; omega) (pad_all _ _),digV_W,digW_pad,
   Nat.mod_eq_of_lt (Nat.lt_of_le_of_lt (Nat.div_le_self _ _) (digW_lt a ha))]
 ·cases h
end Go.Proofs.Tryz
namespace Go.Proofs.Tryz
open Go.Ad
open Go.Lib (decDigits itoa nDigits decFrom digitVal)
def zOK (a:List UInt8):Prop:=isZ a∧a.length < 2 ^ 26
theorem zOK_itoa {Z:Int} {k:Nat} (h:Z.natAbs < 10 ^ k) (hk:k < 2 ^ 25) (h1:1≤k):zOK (itoa Z):=by
 refine ⟨isZ_itoa Z,?_⟩
 have h2:=itoa_len Z
 have h3:=dec_len_lt h h1
 omega
noncomputable def code153:Code:=f161.body.getD .skip
noncomputable def bodyNu:Code:=unLoop (findB 0 code153)
def spNu:SP:=⟨[.str]++dr 2++[.int .i64,.str,.int .i64]++dr 21,dd8⟩
def lfNu (a:List UInt8) (n:Int) (s:List UInt8) (i:Int):List Lf:=[.s a,.i n,.s s,.i i]
theorem roundNu (a:List UInt8) (n:Int) (s:List UInt8) (i:Int):execK prog (runK prog lib2 60) noBps bodyNu (spNu.rho (lfNu a n s i)) (spNu.heap (lfNu a n s i)) (nrmP (fun _=>spNu) 8 []) =
  brK (decide (i < (s.length:Int))) (brK (decide (0≤i∧i < (s.length:Int))) (some (.normal,lfNu a (W (W (10*n)+W (IntKind.u8.wrap (((s.getD i.toNat 0).toNat:Int) - 48)))) s (W (i+1)))) none) (some (.exit 0,lfNu a n s i)):=by kernel_rfl
theorem digW_take_lt {s:List UInt8} (h:s.all isDg=true) (i:Nat):digW 0 (s.take i) < 10 ^ i:=by
 have h1:(s.take i).all isDg=true:=by
  rw [List.all_eq_true] at h ⊢
  exact fun b hb=>h b (List.mem_of_mem_take hb)
 have:=digW_lt _ h1
 refine Nat.lt_of_lt_of_le this (Nat.pow_le_pow_right (by decide) ?_)
 rw [List.length_take]; omega
theorem stepNu {a s:List UInt8} {i:Nat} (hs:s.all isDg=true) (ls:s.length≤18) (hi:i < s.length) :
  execK prog (runK prog lib2 60) noBps bodyNu (spNu.rho (lfNu a (digW 0 (s.take i):Nat) s i)) (spNu.heap (lfNu a (digW 0 (s.take i):Nat) s i)) (nrmP (fun _=>spNu) 8 [])=some (.normal,lfNu a (digW 0 (s.take (i+1)):Nat) s (i+1:Nat)):=by
 have h1:=digW_take_lt hs i
 have h2:10 ^ i≤10 ^ 17:=Nat.pow_le_pow_right (by decide) (by omega)
 have h3:=dg_le hs i
 have e1:(10:Int)*((digW 0 (s.take i):Nat):Int)=((digW 0 (s.take i)*10:Nat):Int):=by omega
 rw [roundNu,Int.toNat_natCast,dgI hs hi,e1,W_nat (n:=digW 0 (s.take i)*10) (by omega),W_nat (n:=dg s i) (by omega),← Int.natCast_add,← take_step hi,W_nat (n:=digW 0 (s.take (i+1))) (by rw [take_step hi]; omega),
  W_id (by omega) (by omega),decide_eq_true (show (i:Int) < (s.length:Int) by omega),decide_eq_true (show 0≤(i:Int)∧(i:Int) < (s.length:Int) by omega)]
 rfl
noncomputable def hookNu:Blk:=hookP spNu 8 [] fun
 | [.s a,.i n,.s s,.i i]=>.br (propB (n=0∧i=0∧s.all isDg=true∧s.length≤18)) (.leaf (.normal,spNu,lfNu a (digW 0 s:Nat) s s.length)) .fail
 | _=>.fail
noncomputable def pR10b:Prims:=pR9.addb 161 0 hookNu
theorem run153 (a:List UInt8):(runK prog pR10b 60).call 161 [.sstr a] (Bg 8) finV =
  brK (propB ((0:Int)=0∧(0:Int)=0∧(absT a).all isDg=true∧(absT a).length≤18)) (brK (propB (isZ a)) (brK (decide (dvalZ a < 0)) (some (.sint .i64 (W (0 - (digW 0 (absT a):Nat))))) (some (.sint .i64 (digW 0 (absT a):Nat)))) none) none:=by kernel_rfl
noncomputable def T153:List Lf→Tr AV
 | [.s a]=>.br (propB (isZ a∧(absT a).length≤18)) (.leaf (.sint .i64 (dvalZ a))) .fail
 | _=>.fail
noncomputable def pR10:Prims:=pR9.addt 161 (gP [.str] T153)
theorem isZ_abs {a:List UInt8} (h:isZ a):absT a=itoa ((dvalZ a).natAbs:Nat):=by
 unfold isZ at h
 have:=absT_itoa (dvalZ a)
 rw [← h] at this
 rw [itoaN]; exact this
section
variable {A:Amb} (hT:Tab A) (hG:prog.globals.size≤A.G)
include hT hG
theorem pR10b_ok:PrimOK prog A pR10b:=by
 have hp:=lib2_ok hT
 refine PrimOK.addbP (pR9_ok hT hG) func161 (show f161.body=some code153 by kernel_rfl) (body:=.loop bodyNu) (by kernel_rfl) (by kernel_rfl) fun ls e sq l h=>?_
 split at h
 ·rename_i a n s i
  obtain ⟨hc,hv⟩:=Tr.br1 h
  cases hv
  obtain ⟨rfl,rfl,hs,ls⟩:=propB_eq hc
  refine ⟨⟨.inr rfl,.inr rfl,.inr rfl,.inr rfl,.inr rfl,.inr rfl,.inr rfl,.inr rfl,trivial⟩,fun Bb hB=>SEB.block_exit (id:=0) ?_⟩
  have e0:([.s a,.i 0,.s s,.i 0]:List Lf)=lfNu a (digW 0 (s.take 0):Nat) s (0:Nat):=rfl
  have e1:lfNu a (digW 0 s:Nat) s s.length=lfNu a (digW 0 (s.take s.length):Nat) s s.length:=by rw [List.take_length]
  rw [e0,e1]
  refine SEB.loop_nat (A:=A) (B0:=Bb) (c:=bodyNu) (I:=fun j=>⟨spNu.rho (lfNu a (digW 0 (s.take j):Nat) s j),spNu.heap (lfNu a (digW 0 (s.take j):Nat) s j),[]⟩) (N:=s.length) (fun j hj=>SEB.of_KP (A:=A) (B0:=Bb) (e:=.normal) hmix hnum hp (.none _) hB (stepNu hs ls hj) rfl) ?_ (by simp) (i:=0) (Nat.zero_le _)
  have hr:=roundNu a (digW 0 (s.take s.length):Nat) s s.length
  rw [decide_eq_false (show ¬ (s.length:Int) < (s.length:Int) by omega)] at hr
  exact SEB.of_KP (A:=A) (B0:=Bb) (e:=.exit 0) hmix hnum hp (.none _) hB hr rfl
 ·cases h
theorem pR10_ok:PrimOK prog A pR10:=by
 refine PrimOK.addP hmix hnum (pR10b_ok hT hG) (pR9_ok hT hG) hG func161 (by kernel_rfl) fun ls v h=>?_
 unfold T153 at h
 split at h
 ·rename_i a
  obtain ⟨hc,hv⟩:=Tr.br1 h
  cases hv
  obtain ⟨hz,hl⟩:=propB_eq hc
  refine ⟨rfl,60,.sint .i64 (dvalZ a),?_,rfl,fun ι x h=>h⟩
  rw [gsz]
  refine (run153 a).trans ?_
  have ha:=isZ_abs hz
  have hall:(absT a).all isDg=true:=by rw [ha]; exact itoaN_all _
  have hlt:=digW_lt _ hall
  have h18:10 ^ (absT a).length≤10 ^ 18:=Nat.pow_le_pow_right (by decide) hl
  have hv:digW 0 (absT a)=(dvalZ a).natAbs:=by rw [ha,digW_itoa]
  rw [propB_true ⟨rfl,rfl,hall,hl⟩,propB_true hz]
  rw [hv] at hlt ⊢
  by_cases h0:dvalZ a < 0
  ·rw [decide_eq_true h0,W_id (by omega) (by omega),show (0:Int) - ((dvalZ a).natAbs:Nat)=dvalZ a by omega]; rfl
  ·rw [decide_eq_false h0,show (((dvalZ a).natAbs:Nat):Int)=dvalZ a by omega]; rfl
 ·cases h
end
theorem run143 (a:List UInt8):(runK prog pR10 60).call 108 [.sstr a] (Bg 8) finV=brK (propB (isZ a)) (brK (decide (1+(absT a).length < 4611686018427387904)) (some (.sstr (sgnT (absT a) (!(decide (dvalZ a < 0)))))) none) none:=by kernel_rfl
theorem sgnT_sv (V:Nat) (m:Bool):sgnT (itoa (V:Int)) m=itoa (sv m V):=by
 unfold sgnT
 cases m with
 | false=>rfl
 | true =>
  rw [itoa_is0,Bool.true_and,sv_t]
  by_cases h:(V:Int)=0
  ·rw [decide_eq_true h,h]; rfl
  ·rw [decide_eq_false h]
   show 45 :: itoa (V:Int)=itoa (-(V:Int))
   rw [itoaN]
   unfold itoa
   rw [if_pos (by omega),Int.natAbs_neg,Int.natAbs_natCast]
noncomputable def T143:List Lf→Tr AV
 | [.s a]=>.br (propB (zOK a)) (.leaf (.sstr (itoa (-(dvalZ a))))) .fail
 | _=>.fail
noncomputable def pR11:Prims:=pR10.addt 108 (gP [.str] T143)
theorem neg_sv (Z:Int):sv (!(decide (Z < 0))) Z.natAbs=-Z:=by
 by_cases h:Z < 0
 ·rw [decide_eq_true h]; show ((Z.natAbs:Nat):Int)=_; omega
 ·rw [decide_eq_false h]; show -((Z.natAbs:Nat):Int)=_; omega
theorem pR11_ok {A:Amb} (hT:Tab A) (hG:prog.globals.size≤A.G):PrimOK prog A pR11:=by
 refine PrimOK.addP hmix hnum (pR10_ok hT hG) (pR10_ok hT hG) hG func108 (by kernel_rfl) fun ls v h=>?_
 unfold T143 at h
 split at h
 ·rename_i a
  obtain ⟨hc,hv⟩:=Tr.br1 h
  cases hv
  obtain ⟨hz,hl⟩:=propB_eq hc
  refine ⟨rfl,60,.sstr (itoa (-(dvalZ a))),?_,rfl,fun ι x h=>h⟩
  rw [gsz]
  refine (run143 a).trans ?_
  have hle:=(absT_len1 a).1
  rw [propB_true hz,decide_eq_true (show 1+(absT a).length < 4611686018427387904 by omega),isZ_abs hz,sgnT_sv,neg_sv]
  rfl
 ·cases h
noncomputable def code101:Code:=f76.body.getD .skip
noncomputable def bodyOf:Code:=unLoop (findB 0 code101)
def spOf:SP:=⟨[.int .i64]++dr 2++[.str]++dr 33,dd8⟩
theorem roundOf (n:Int) (s:List UInt8):execK prog (runK prog pR11 60) noBps bodyOf (spOf.rho [.i n,.s s]) (spOf.heap [.i n,.s s]) (nrmP (fun _=>spOf) 8 []) =
  brK (decide (n > 9)) (brK (decide (1+s.length < 4611686018427387904)) (some (.normal,[.i (W (n.tdiv 10)),.s (UInt8.ofNat (IntKind.u8.wrap (W (48+n.tmod 10))).toNat :: s)])) none) (some (.exit 0,[.i n,.s s])):=by kernel_rfl
theorem stepOf {n:Nat} {s:List UInt8} (hn:n < 2 ^ 63) (hs:n > 9→s.length < 100):execK prog (runK prog pR11 60) noBps bodyOf (spOf.rho [.i n,.s s]) (spOf.heap [.i n,.s s]) (nrmP (fun _=>spOf) 8 []) =
  if n > 9 then some (.normal,[.i (n / 10:Nat),.s (dig n :: s)]) else some (.exit 0,[.i n,.s s]):=by
 rw [roundOf]
 by_cases h:n > 9
 ·have hs:=hs h
  have e3:((n:Int)).tdiv 10=((n / 10:Nat):Int):=by rw [Int.tdiv_eq_ediv_of_nonneg (Int.natCast_nonneg _)]; rfl
  have e4:((n:Int)).tmod 10=((n % 10:Nat):Int):=by rw [Int.tmod_eq_emod_of_nonneg (Int.natCast_nonneg _)]; rfl
  have e5:(48:Int)+((n % 10:Nat):Int)=((48+n % 10:Nat):Int):=by omega
  rw [if_pos h,decide_eq_true (show (n:Int) > 9 by omega),decide_eq_true (show 1+s.length < 4611686018427387904 by omega),e3,e4,e5,W_nat (n:=n / 10) (by omega),W_nat (n:=48+n % 10) (by omega),wrap8_nat (n:=48+n % 10) (by omega),Int.toNat_natCast]
  rfl
 ·rw [if_neg h,decide_eq_false (show ¬ (n:Int) > 9 by omega)]; rfl
def topD (n:Nat):Nat:=((decDigits n).headD 0).toNat - 48
def lowD (n:Nat):List UInt8:=(decDigits n).tail
noncomputable def hookOf:Blk:=hookP spOf 8 [] fun
 | [.i n,.s s]=>.br (propB (0≤n∧n < 2 ^ 63∧s=[])) (.leaf (.normal,spOf,[.i (topD n.toNat:Nat),.s (lowD n.toNat)])) .fail
 | _=>.fail
theorem topD_big {n:Nat} (h:n > 9):topD n=topD (n / 10)∧lowD n=lowD (n / 10)++[dig n]:=by
 unfold topD lowD
 rw [dec_big (by omega)]
 have hne:=dec_ne (n / 10)
 cases hh:decDigits (n / 10) with
 | nil=>exact (hne hh).elim
 | cons b r=>exact ⟨rfl,rfl⟩
theorem topD_small {n:Nat} (h:¬ n > 9):topD n=n∧lowD n=[]:=by
 unfold topD lowD
 rw [dec_small (by omega)]
 refine ⟨?_,rfl⟩
 show (dig n).toNat - 48=n
 rw [dig_toNat]; omega
theorem topD_text (n:Nat):UInt8.ofNat (48+topD n) :: lowD n=decDigits n∧topD n≤9:=by
 unfold topD lowD
 cases hh:decDigits n with
 | nil=>exact (dec_ne n hh).elim
 | cons b r =>
  have hb:=dec_digit n b (by rw [hh]; simp)
  have:48+(((b :: r).headD 0).toNat - 48)=b.toNat:=by show 48+(b.toNat - 48)=_; omega
  rw [this]
  refine ⟨by rw [UInt8.ofNat_toNat]; rfl,?_⟩
  show b.toNat - 48≤9
  omega
noncomputable def pR12b:Prims:=pR11.addb 76 0 hookOf
section
variable {A:Amb} (hT:Tab A) (hG:prog.globals.size≤A.G)
include hT hG
theorem hookOf_ok:∀ ρ B e' ρ' B' D,(hookOf ρ B).get=some (e',ρ',B',D)→AFr B B' D∧SEB prog A B (.block 0 (.loop bodyOf)) ⟨ρ,B,[]⟩ e' ⟨ρ',B',D⟩:=by
 have hp:=pR11_ok hT hG
 refine hookP_ok rfl fun ls e sq l h=>?_
 split at h
 ·rename_i n s
  obtain ⟨hc,hv⟩:=Tr.br1 h
  cases hv
  obtain ⟨h0,h1,rfl⟩:=propB_eq hc
  obtain ⟨n,rfl⟩:=Int.eq_ofNat_of_zero_le h0
  rw [Int.toNat_natCast]
  refine ⟨⟨.inr rfl,.inr rfl,.inr rfl,.inr rfl,.inr rfl,.inr rfl,.inr rfl,.inr rfl,trivial⟩,fun Bb hB=>SEB.block_exit (id:=0) ?_⟩
  have key:=SEB.while (P:=prog) (A:=A) (B0:=Bb) (c:=bodyOf) (fun s:Nat × List UInt8=>s.1*10 ^ s.2.length < 2 ^ 63) (fun s=>s.1) (fun s=>⟨spOf.rho [.i s.1,.s s.2],spOf.heap [.i s.1,.s s.2],[]⟩)
   (fun s=>(.exit 0,⟨spOf.rho [.i (topD s.1:Nat),.s (lowD s.1++s.2)],spOf.heap [.i (topD s.1:Nat),.s (lowD s.1++s.2)],[]⟩)) (fun s hs=>?_) (n,[]) (by simp only [List.length_nil,Nat.pow_zero,Nat.mul_one]; omega)
  ·simp only [List.append_nil] at key
   exact key
  ·obtain ⟨m,t⟩:=s
   simp only at hs
   have hm:m < 2 ^ 63:=Nat.lt_of_le_of_lt (by have:=Nat.mul_le_mul_left m (Nat.pow_pos (n:=t.length) (show 0 < 10 by decide)); omega) hs
   have hlen:m > 9→t.length < 100:=fun hz=>by
    rcases Nat.lt_or_ge t.length 100 with h2 | h2
    ·exact h2
    ·exfalso
     have h3:10 ^ 20≤10 ^ t.length:=Nat.pow_le_pow_right (by decide) (by omega)
     have h4:=Nat.mul_le_mul (show 1≤m by omega) h3
     omega
   have hk:=stepOf hm hlen (s:=t)
   by_cases h9:m > 9
   ·rw [if_pos h9] at hk
    left
    refine ⟨(m / 10,dig m :: t),?_,by simp only; omega,?_,SEB.of_KP (A:=A) (B0:=Bb) (e:=.normal) hmix hnum hp (.none _) hB hk rfl⟩
    ·simp only [List.length_cons,Nat.pow_succ]
     refine Nat.lt_of_le_of_lt ?_ hs
     rw [Nat.mul_comm (10 ^ t.length) 10,← Nat.mul_assoc]
     exact Nat.mul_le_mul_right _ (Nat.div_mul_le_self _ _)
    ·obtain ⟨t1,t2⟩:=topD_big h9
     simp only [t1,t2,List.append_assoc,List.singleton_append]
   ·rw [if_neg h9] at hk
    obtain ⟨t1,t2⟩:=topD_small h9
    right
    refine ⟨by simp,?_⟩
    simp only [t1,t2,List.nil_append]
    exact SEB.of_KP (A:=A) (B0:=Bb) (e:=.exit 0) hmix hnum hp (.none _) hB hk rfl
 ·cases h
theorem pR12b_ok:PrimOK prog A pR12b :=
 (pR11_ok hT hG).addb func76 (show f76.body=some code101 by kernel_rfl) (by kernel_rfl) (hookOf_ok hT hG)
end
theorem run101 (n:Int):(runK prog pR12b 60).call 76 [.rng .i64 n 0 9223372036854775807] (Bg 8) finV =
  brK (n == 0 - n) (brK (n != 0) (some (.str [45,57,50,50,51,51,55,50,48,51,54,56,53,52,55,55,53,56,48,56])) (brK (propB (0≤n∧n < 2 ^ 63∧([]:List UInt8)=[])) (brK (decide (1+(lowD n.toNat).length < 4611686018427387904))
   (some (.sstr (UInt8.ofNat (IntKind.u8.wrap (W (48+(topD n.toNat:Nat)))).toNat :: lowD n.toNat))) none) none))
   (brK (propB (0≤n∧n < 2 ^ 63∧([]:List UInt8)=[])) (brK (decide (1+(lowD n.toNat).length < 4611686018427387904))
   (some (.sstr (UInt8.ofNat (IntKind.u8.wrap (W (48+(topD n.toNat:Nat)))).toNat :: lowD n.toNat))) none) none):=by kernel_rfl
theorem run101_eq {n:Int} (h0:0≤n) (h1:n < 2 ^ 63):(runK prog pR12b 60).call 76 [.rng .i64 n 0 9223372036854775807] (Bg 8) finV=some (.sstr (itoa n)):=by
 rw [run101]
 obtain ⟨n,rfl⟩:=Int.eq_ofNat_of_zero_le h0
 obtain ⟨t1,t2⟩:=topD_text n
 have hlen:(lowD n).length≤19:=by
  have h2:=itoaN_len (n:=n) (k:=19) (by omega) (by omega)
  rw [itoaN] at h2
  unfold lowD
  rw [List.length_tail]; omega
 have e5:(48:Int)+((topD n:Nat):Int)=((48+topD n:Nat):Int):=by omega
 rw [Int.toNat_natCast,propB_true ⟨h0,h1,rfl⟩,decide_eq_true (show 1+(lowD n).length < 4611686018427387904 by omega),e5,W_nat (n:=48+topD n) (by omega),wrap8_nat (n:=48+topD n) (by omega),Int.toNat_natCast,t1,← itoaN]
 by_cases hz:n=0
 ·subst hz; rfl
 ·rw [show ((n:Int) == 0 - (n:Int))=false by rw [beq_eq_false_iff_ne]; omega]; rfl
noncomputable def gOfP:List AV→Tr AV
 | [a]=>match snum a with
  | some (k,n)=>.br (propB (k=.i64∧0≤n∧n < 2 ^ 63)) (.leaf (.sstr (itoa n))) .fail
  | none=>.fail
 | _=>.fail
noncomputable def pR12p:Prims:=pR11.addt 76 gOfP
noncomputable def gOf:List AV→Tr AV
 | [a]=>match snum a with
  | some (k,n)=>.br (propB (k=.i64∧-(2 ^ 63) < n∧n < 2 ^ 63)) (.leaf (.sstr (itoa n))) .fail
  | none=>.fail
 | _=>.fail
noncomputable def pR12:Prims:=pR11.addt 76 gOf
theorem vrl_rng {ι:Emb} {a:AV} {k:IntKind} {n lo hi:Int} {xs:List Value} (h:snum a=some (k,n)) (h1:lo≤n) (h2:n≤hi) (hx:VRL ι [a] xs):VRL ι [.rng k n lo hi] xs:=by
 refine VRL.weaken (show ([.rng k n lo hi]:List AV).length=[a].length from rfl) (fun i a' hi=>?_) hx
 match i,hi with
 | 0,hi=>cases hi; exact ⟨_,rfl,fun v hv=>by simp only [VR]; exact ⟨snum_VR h hv,h1,h2⟩⟩
 | i+1,hi=>simp at hi
def spOfR:SP:=⟨dr 2++[.str]++dr 34,dd8⟩
theorem run101n (n:Int):execK prog (runK prog pR12p 60) noBps code101 ([.rng .i64 n (-9223372036854775807) (-1)]++List.replicate 36 aundef) (Bg 8) (nrmP (fun _=>spOfR) 8 []) =
  brK (propB (IntKind.i64=.i64∧0≤0 - n∧0 - n < 2 ^ 63)) (brK (propB (zOK (itoa (0 - n)))) (some (.ret,[.s (itoa (-(dvalZ (itoa (0 - n)))))])) none) none:=by kernel_rfl
noncomputable def pOn (n:Int):Prims:=pR11.addh 76 (gPin [.rng .i64 n (-9223372036854775807) (-1)] (Bg 8) (.sstr (itoa n)) (Bg 8) [])
theorem runOn (n:Int):(runK prog (pOn n) 60).call 76 [.rng .i64 n (-9223372036854775807) (-1)] (Bg 8) finV =
  brK (propB (([.rng .i64 n (-9223372036854775807) (-1)]:List AV)=[.rng .i64 n (-9223372036854775807) (-1)]∧Bg 8=Bg 8)) (some (.sstr (itoa n))) none:=by kernel_rfl
section
variable {A:Amb} (hT:Tab A) (hG:prog.globals.size≤A.G)
include hT hG
theorem pR12p_ok:PrimOK prog A pR12p:=by
 refine PrimOK.addt3 hmix hnum (pR11_ok hT hG) hG func76 (by kernel_rfl) fun args v hv=>?_
 unfold gOfP at hv
 split at hv
 ·rename_i a
  split at hv
  ·rename_i k n hs
   obtain ⟨hc,hv⟩:=Tr.br1 hv
   cases hv
   obtain ⟨rfl,h0,h1⟩:=propB_eq hc
   obtain ⟨B',hca⟩:=Ca.of_finV (run101_eq h0 h1)
   exact ⟨pR12b,_,_,B',pR12b_ok hT hG,fun ι xs hx=>vrl_rng (lo:=0) (hi:=9223372036854775807) hs h0 (by omega) hx,fun ι x hx=>hx,rfl,rfl,by rw [gsz]; exact hca⟩
  ·cases hv
 ·cases hv
theorem pOn_ok {n:Int} (h0:n < 0) (h1:-(2 ^ 63) < n):PrimOK prog A (pOn n):=by
 refine PrimOK.body (pR11_ok hT hG) func76 (show f76.body=some code101 by kernel_rfl) fun args B v B' D hq=>?_
 obtain ⟨hc1,hv⟩:=Tr.br_get0 hq
 obtain ⟨rfl,rfl⟩:=propB_eq hc1
 simp only [Tr.get,Option.some.injEq,Prod.mk.injEq] at hv
 obtain ⟨rfl,rfl,rfl⟩:=hv
 have hk:=run101n n
 have hz:zOK (itoa (0 - n)):=zOK_itoa (k:=19) (by omega) (by omega) (by omega)
 rw [propB_true ⟨rfl,by omega,by omega⟩,propB_true hz,dvalZ_itoa,show -(0 - n)=n by omega] at hk
 have hs:=SEB.of_KP (A:=A) (B0:=Bg 8) (e:=.ret) hmix hnum (pR12p_ok hT hG) (.none _) rfl hk rfl
 exact ⟨⟨Nat.le_refl _,fun _ _ _=>rfl⟩,[.rng .i64 n (-9223372036854775807) (-1)],.ret,_,[.sstr (itoa n)],fun _ _ h=>h,hs,by simp,rfl,rfl,rfl,rfl⟩
theorem pR12_ok:PrimOK prog A pR12:=by
 refine PrimOK.addt3 hmix hnum (pR11_ok hT hG) hG func76 (by kernel_rfl) fun args v hv=>?_
 unfold gOf at hv
 split at hv
 ·rename_i a
  split at hv
  ·rename_i k n hs
   obtain ⟨hc,hv⟩:=Tr.br1 hv
   cases hv
   obtain ⟨rfl,h0,h1⟩:=propB_eq hc
   by_cases hn:0≤n
   ·obtain ⟨B',hca⟩:=Ca.of_finV (run101_eq hn h1)
    exact ⟨pR12b,_,_,B',pR12b_ok hT hG,fun ι xs hx=>vrl_rng (lo:=0) (hi:=9223372036854775807) hs hn (by omega) hx,fun ι x hx=>hx,rfl,rfl,by rw [gsz]; exact hca⟩
   ·have hk:=runOn n
    rw [propB_true ⟨rfl,rfl⟩,brK_t] at hk
    obtain ⟨B',hca⟩:=Ca.of_finV hk
    exact ⟨pOn n,_,_,B',pOn_ok hT hG (by omega) h0,fun ι xs hx=>vrl_rng (lo:=-9223372036854775807) (hi:=-1) hs (by omega) (by omega) hx,fun ι x hx=>hx,rfl,rfl,by rw [gsz]; exact hca⟩
  ·cases hv
 ·cases hv
end
end Go.Proofs.Tryz
namespace Go.Proofs.Tryz
open Go.Ad
open Go.Lib (decDigits itoa nDigits decFrom digitVal)
def brOK (a b:List UInt8):Bool:=decide ((absT a).length≤18) && decide ((absT b).length≤18)
theorem run117 (a b:List UInt8):(runK prog pR12 60).call 119 [.sstr a,.sstr b] (Bg 8) finV =
  brK (decide (((absT a).length:Int) > 18)) (some (.tuple [.int .i64 0,.int .i64 0,.bool false])) (brK (decide (((absT b).length:Int) > 18)) (some (.tuple [.int .i64 0,.int .i64 0,.bool false]))
   (brK (propB (isZ a∧(absT a).length≤18)) (brK (propB (isZ b∧(absT b).length≤18)) (some (.tuple [.sint .i64 (dvalZ a),.sint .i64 (dvalZ b),.bool true])) none) none)):=by kernel_rfl
noncomputable def T117:List Lf→Tr AV
 | [.s a,.s b]=>.br (propB (isZ a∧isZ b)) (.leaf (.tuple [.sint .i64 (bif brOK a b then dvalZ a else 0),.sint .i64 (bif brOK a b then dvalZ b else 0),.sbool (brOK a b)])) .fail
 | _=>.fail
noncomputable def pR13:Prims:=pR12.addt 119 (gP [.str,.str] T117)
theorem pR13_ok {A:Amb} (hT:Tab A) (hG:prog.globals.size≤A.G):PrimOK prog A pR13:=by
 refine PrimOK.addP hmix hnum (pR12_ok hT hG) (pR12_ok hT hG) hG func119 (by kernel_rfl) fun ls v h=>?_
 unfold T117 at h
 split at h
 ·rename_i a b
  obtain ⟨hc,hv⟩:=Tr.br1 h
  cases hv
  obtain ⟨ha,hb⟩:=propB_eq hc
  have hk:=run117 a b
  have fin:∀ v',(runK prog pR12 60).call 119 [.sstr a,.sstr b] (Bg 8) finV=some v'→below 0 v'=true→(∀ ι x,VR ι v' x→VR ι (.tuple [.sint .i64 (bif brOK a b then dvalZ a else 0),.sint .i64 (bif brOK a b then dvalZ b else 0),.sbool (brOK a b)]) x) →
    belowL 0 (mkT [.str,.str] [.s a,.s b]).1=true∧∃ n v',(runK prog pR12 n).call 119 (mkT [.str,.str] [.s a,.s b]).1 (Bg prog.globals.size) finV=some v'∧below 0 v'=true∧∀ ι x,VR ι v' x→VR ι (.tuple [.sint .i64 (bif brOK a b then dvalZ a else 0),.sint .i64 (bif brOK a b then dvalZ b else 0),.sbool (brOK a b)]) x:=fun v' h1 h2 h3 =>
   ⟨rfl,60,v',by rw [gsz]; exact h1,h2,h3⟩
  by_cases h1:(absT a).length≤18
  ·rw [decide_eq_false (show ¬ ((absT a).length:Int) > 18 by omega)] at hk
   by_cases h2:(absT b).length≤18
   ·have hs:brOK a b=true:=by unfold brOK; rw [decide_eq_true h1,decide_eq_true h2]; rfl
    rw [decide_eq_false (show ¬ ((absT b).length:Int) > 18 by omega),propB_true ⟨ha,h1⟩,propB_true ⟨hb,h2⟩] at hk
    refine fin _ hk rfl fun ι x=>?_
    rw [hs]; exact vr_tup3 (fun _ h=>h) (fun _ h=>h) (fun _ h=>vr_bool rfl _ h) x
   ·have hs:brOK a b=false:=by unfold brOK; rw [decide_eq_false h2,Bool.and_false]
    rw [decide_eq_true (show ((absT b).length:Int) > 18 by omega)] at hk
    refine fin _ hk rfl fun ι x=>?_
    rw [hs]; exact vr_tup3 (fun _ h=>vr_int rfl _ h) (fun _ h=>vr_int rfl _ h) (fun _ h=>vr_bool rfl _ h) x
  ·have hs:brOK a b=false:=by unfold brOK; rw [decide_eq_false h1,Bool.false_and]
   rw [decide_eq_true (show ((absT a).length:Int) > 18 by omega)] at hk
   refine fin _ hk rfl fun ι x=>?_
   rw [hs]; exact vr_tup3 (fun _ h=>vr_int rfl _ h) (fun _ h=>vr_int rfl _ h) (fun _ h=>vr_bool rfl _ h) x
 ·cases h
theorem brOK_lt {a b:List UInt8} (ha:isZ a) (hb:isZ b) (h:brOK a b=true):((dvalZ a).natAbs < 10 ^ 18∧(dvalZ b).natAbs < 10 ^ 18):=by
 unfold brOK at h
 rw [Bool.and_eq_true,decide_eq_true_eq,decide_eq_true_eq] at h
 have h1:=itoaN_lt (dvalZ a).natAbs
 have h2:=itoaN_lt (dvalZ b).natAbs
 rw [← isZ_abs ha] at h1
 rw [← isZ_abs hb] at h2
 exact ⟨Nat.lt_of_lt_of_le h1 (Nat.pow_le_pow_right (by decide) h.1),Nat.lt_of_lt_of_le h2 (Nat.pow_le_pow_right (by decide) h.2)⟩
noncomputable abbrev leafP (a x y:List UInt8) (ad s:Bool):Option AV :=
 brK (propB (x.all isDg=true∧y.all isDg=true∧x.length < 2 ^ 30∧y.length < 2 ^ 30∧(ad=false→digW 0 y≤digW 0 x))) (brK (propB (isZ a)) (brK (decide (1+(itoa (sumN ad (digW 0 x) (digW 0 y):Nat)).length < 4611686018427387904))
  (some (.sstr (sgnT (itoa (sumN ad (digW 0 x) (digW 0 y):Nat)) s))) none) none) none
noncomputable abbrev tree100 (a b x y:List UInt8) (la lb:Bool) (n:Int):Option AV :=
 brK (propB (isZ a∧isZ b)) (brK (brOK a b) (brK (propB (IntKind.i64=.i64∧-(2 ^ 63) < n∧n < 2 ^ 63)) (some (.sstr (itoa n))) none)
  (brK (propB (isZ a)) (brK (propB (isZ b)) (brK (la == lb) (leafP a x y true la) (brK (propB (x=itoa (digW 0 x:Nat)∧y=itoa (digW 0 y:Nat))) (brK (decide (digW 0 x < digW 0 y)) (leafP b y x false lb) (leafP a x y false la)) none)) none) none)) none
theorem run100 (a b:List UInt8):(runK prog pR13 60).call 80 [.sstr a,.sstr b] (Bg 8) finV =
  tree100 a b (absT a) (absT b) (decide (dvalZ a < 0)) (decide (dvalZ b < 0)) (W ((bif brOK a b then dvalZ a else 0)+(bif brOK a b then dvalZ b else 0))):=by kernel_rfl
theorem leafP_eq {a:List UInt8} {X Y:Nat} {ad s:Bool} (ha:isZ a) (lx:(itoa (X:Int)).length < 2 ^ 27) (ly:(itoa (Y:Int)).length < 2 ^ 27) (hle:ad=false→Y≤X) :
  leafP a (itoa (X:Nat)) (itoa (Y:Nat)) ad s=some (.sstr (itoa (sv s (sumN ad X Y)))):=by
 unfold leafP
 have hlen:(itoa (sumN ad X Y:Nat)).length≤2 ^ 28:=by
  have hx:=itoaN_lt X
  have hy:=itoaN_lt Y
  have h2:(itoa (X:Int)).length≤max (itoa (X:Int)).length (itoa (Y:Int)).length:=by omega
  have h3:(itoa (Y:Int)).length≤max (itoa (X:Int)).length (itoa (Y:Int)).length:=by omega
  have h4:=Nat.lt_of_lt_of_le hx (Nat.pow_le_pow_right (n:=10) (by decide) h2)
  have h5:=Nat.lt_of_lt_of_le hy (Nat.pow_le_pow_right (n:=10) (by decide) h3)
  have h6:sumN ad X Y < 10 ^ (max (itoa (X:Int)).length (itoa (Y:Int)).length+1):=by
   rw [Nat.pow_succ]
   unfold sumN
   cases ad <;> simp only [cond_true,cond_false] <;> omega
  have:=itoaN_len h6 (by omega)
  omega
 rw [digW_itoa,digW_itoa,propB_true ⟨itoaN_all X,itoaN_all Y,by omega,by omega,hle⟩,propB_true ha,decide_eq_true (show 1+(itoa (sumN ad X Y:Nat)).length < 4611686018427387904 by omega),sgnT_sv]
 rfl
noncomputable def TI (op:Int→Int→Int):List Lf→Tr AV
 | [.s a,.s b]=>.br (propB (zOK a∧zOK b)) (.leaf (.sstr (itoa (op (dvalZ a) (dvalZ b))))) .fail
 | _=>.fail
noncomputable def pR14:Prims:=pR13.addt 80 (gP [.str,.str] (TI (·+·)))
theorem zOK_abs {a:List UInt8} (h:zOK a):absT a=itoa ((dvalZ a).natAbs:Nat)∧(itoa ((dvalZ a).natAbs:Int)).length < 2 ^ 26:=by
 have h1:=isZ_abs h.1
 have h2:=(absT_len1 a).1
 have h3:=h.2
 rw [h1] at h2
 exact ⟨h1,by omega⟩
theorem sum_eq (A B:Int) (h:decide (A < 0)=decide (B < 0)):sv (decide (A < 0)) (A.natAbs+B.natAbs)=A+B:=by
 have:=decide_eq_decide.1 h
 by_cases h0:A < 0
 ·rw [decide_eq_true h0,sv_t]; omega
 ·rw [decide_eq_false h0,sv_f]; omega
theorem tree100_eq {a b:List UInt8} (ha:zOK a) (hb:zOK b):tree100 a b (absT a) (absT b) (decide (dvalZ a < 0)) (decide (dvalZ b < 0)) (W ((bif brOK a b then dvalZ a else 0)+(bif brOK a b then dvalZ b else 0)))=some (.sstr (itoa (dvalZ a+dvalZ b))):=by
 obtain ⟨a1,a2⟩:=zOK_abs ha
 obtain ⟨b1,b2⟩:=zOK_abs hb
 unfold tree100
 rw [propB_true ⟨ha.1,hb.1⟩,brK_t]
 cases hbr:brOK a b with
 | true =>
  obtain ⟨h1,h2⟩:=brOK_lt ha.1 hb.1 hbr
  rw [cond_true,cond_true,W_id (by omega) (by omega),propB_true ⟨rfl,by omega,by omega⟩]; rfl
 | false =>
  rw [brK_f,propB_true ha.1,propB_true hb.1,brK_t,brK_t,a1,b1]
  cases hl:(decide (dvalZ a < 0) == decide (dvalZ b < 0)) with
  | true =>
   rw [brK_t,leafP_eq ha.1 (by omega) (by omega) (fun h=>by cases h)]
   have:=sum_eq (dvalZ a) (dvalZ b) (by simpa using hl)
   show some (AV.sstr (itoa (sv (decide (dvalZ a < 0)) ((dvalZ a).natAbs+(dvalZ b).natAbs))))=_
   rw [this]
  | false =>
   have hne:decide (dvalZ a < 0) ≠ decide (dvalZ b < 0):=by simpa using hl
   have hiff:¬ (dvalZ a < 0 ↔ dvalZ b < 0):=fun e=>hne (decide_eq_decide.2 e)
   rw [brK_f,digW_itoa,digW_itoa,propB_true ⟨rfl,rfl⟩,brK_t]
   by_cases hlt:(dvalZ a).natAbs < (dvalZ b).natAbs
   ·rw [decide_eq_true hlt,brK_t,leafP_eq hb.1 (by omega) (by omega) (fun _=>by omega)]
    congr 3
    show sv (decide (dvalZ b < 0)) ((dvalZ b).natAbs - (dvalZ a).natAbs)=_
    by_cases h0:dvalZ b < 0
    ·rw [decide_eq_true h0,sv_t]; omega
    ·rw [decide_eq_false h0,sv_f]; omega
   ·rw [decide_eq_false hlt,brK_f,leafP_eq ha.1 (by omega) (by omega) (fun _=>by omega)]
    congr 3
    show sv (decide (dvalZ a < 0)) ((dvalZ a).natAbs - (dvalZ b).natAbs)=_
    by_cases h0:dvalZ a < 0
    ·rw [decide_eq_true h0,sv_t]; omega
    ·rw [decide_eq_false h0,sv_f]; omega
theorem pR14_ok {A:Amb} (hT:Tab A) (hG:prog.globals.size≤A.G):PrimOK prog A pR14:=by
 refine PrimOK.addP hmix hnum (pR13_ok hT hG) (pR13_ok hT hG) hG func80 (by kernel_rfl) fun ls v h=>?_
 unfold TI at h
 split at h
 ·rename_i a b
  obtain ⟨hc,hv⟩:=Tr.br1 h
  cases hv
  obtain ⟨ha,hb⟩:=propB_eq hc
  exact ⟨rfl,60,_,by rw [gsz]; exact (run100 a b).trans (tree100_eq ha hb),rfl,fun ι x h=>h⟩
 ·cases h
noncomputable abbrev leafT (a b x y:List UInt8) (s:Bool):Option AV :=
 brK (propB (x.all isDg=true∧y.all isDg=true∧x ≠ []∧x.length < 2 ^ 29∧y.length < 2 ^ 29)) (brK (propB (isZ a)) (brK (propB (isZ b)) (brK (decide (1+(itoa (digW 0 x*digW 0 y:Nat)).length < 4611686018427387904))
  (some (.sstr (sgnT (itoa (digW 0 x*digW 0 y:Nat)) s))) none) none) none) none
noncomputable abbrev tree73 (a b x y:List UInt8) (la lb:Bool) (n:Int):Option AV :=
 brK (propB (isZ a∧isZ b)) (brK (brOK a b) (brK (decide (W ((a.length:Int)+(b.length:Int))≤18)) (brK (propB (IntKind.i64=.i64∧-(2 ^ 63) < n∧n < 2 ^ 63)) (some (.sstr (itoa n))) none) (leafT a b x y (!(la == lb)))) (leafT a b x y (!(la == lb)))) none
theorem run73 (a b:List UInt8):(runK prog pR14 60).call 105 [.sstr a,.sstr b] (Bg 8) finV =
  tree73 a b (absT a) (absT b) (decide (dvalZ a < 0)) (decide (dvalZ b < 0)) (W ((bif brOK a b then dvalZ a else 0)*(bif brOK a b then dvalZ b else 0))):=by kernel_rfl
theorem leafT_eq {a b:List UInt8} {X Y:Nat} {s:Bool} (ha:isZ a) (hb:isZ b) (lx:(itoa (X:Int)).length < 2 ^ 26) (ly:(itoa (Y:Int)).length < 2 ^ 26) :
  leafT a b (itoa (X:Nat)) (itoa (Y:Nat)) s=some (.sstr (itoa (sv s (X*Y)))):=by
 unfold leafT
 have hlen:(itoa ((X*Y:Nat):Int)).length≤2 ^ 28:=by
  have hx:=itoaN_lt X
  have hy:=itoaN_lt Y
  have h6:=Nat.mul_lt_mul'' hx hy
  rw [← Nat.pow_add] at h6
  have hpos:0 < (itoa (X:Int)).length:=by cases hh:itoa (X:Int) with | nil=>exact (itoa_ne _ hh).elim | cons=>simp
  have:=itoaN_len h6 (by omega)
  omega
 rw [digW_itoa,digW_itoa,propB_true ⟨itoaN_all X,itoaN_all Y,itoa_ne _,by omega,by omega⟩,propB_true ha,propB_true hb,decide_eq_true (show 1+(itoa ((X*Y:Nat):Int)).length < 4611686018427387904 by omega),sgnT_sv]
 rfl
theorem mul_sv (A B:Int):sv (!(decide (A < 0) == decide (B < 0))) (A.natAbs*B.natAbs)=A*B:=by
 have:=sv_mul (decide (A < 0)) (decide (B < 0)) A.natAbs B.natAbs
 rw [sv_of,sv_of] at this
 exact this
noncomputable def pR15:Prims:=pR14.addt 105 (gP [.str,.str] (TI (·*·)))
theorem isZ_lt {a:List UInt8} (h:isZ a):(dvalZ a).natAbs < 10 ^ a.length:=by
 have h1:=itoaN_lt (dvalZ a).natAbs
 rw [← isZ_abs h] at h1
 exact Nat.lt_of_lt_of_le h1 (Nat.pow_le_pow_right (by decide) (absT_len1 a).1)
theorem tree73_eq {a b:List UInt8} (ha:zOK a) (hb:zOK b):tree73 a b (absT a) (absT b) (decide (dvalZ a < 0)) (decide (dvalZ b < 0)) (W ((bif brOK a b then dvalZ a else 0)*(bif brOK a b then dvalZ b else 0)))=some (.sstr (itoa (dvalZ a*dvalZ b))):=by
 obtain ⟨a1,a2⟩:=zOK_abs ha
 obtain ⟨b1,b2⟩:=zOK_abs hb
 have hlt:=leafT_eq (s:=!(decide (dvalZ a < 0) == decide (dvalZ b < 0))) ha.1 hb.1 a2 b2
 rw [mul_sv] at hlt
 have ha2:=ha.2
 have hb2:=hb.2
 unfold tree73
 rw [propB_true ⟨ha.1,hb.1⟩,brK_t,W_id (n:=(a.length:Int)+(b.length:Int)) (by omega) (by omega)]
 cases hbr:brOK a b with
 | true =>
  rw [brK_t]
  by_cases h18:a.length+b.length≤18
  ·have h1:=isZ_lt ha.1
   have h2:=isZ_lt hb.1
   have h3:=Nat.mul_lt_mul'' h1 h2
   rw [← Nat.pow_add] at h3
   have h4:=Nat.lt_of_lt_of_le h3 (Nat.pow_le_pow_right (n:=10) (by decide) h18)
   have h5:(dvalZ a*dvalZ b).natAbs < 10 ^ 18:=by rw [Int.natAbs_mul]; exact h4
   rw [cond_true,cond_true,decide_eq_true (show (a.length:Int)+(b.length:Int)≤18 by omega),brK_t,W_id (by omega) (by omega),propB_true ⟨rfl,by omega,by omega⟩]; rfl
  ·rw [decide_eq_false (show ¬ (a.length:Int)+(b.length:Int)≤18 by omega),brK_f,a1,b1]
   exact hlt
 | false=>rw [brK_f,a1,b1]; exact hlt
theorem pR15_ok {A:Amb} (hT:Tab A) (hG:prog.globals.size≤A.G):PrimOK prog A pR15:=by
 refine PrimOK.addP hmix hnum (pR14_ok hT hG) (pR14_ok hT hG) hG func105 (by kernel_rfl) fun ls v h=>?_
 unfold TI at h
 split at h
 ·rename_i a b
  obtain ⟨hc,hv⟩:=Tr.br1 h
  cases hv
  obtain ⟨ha,hb⟩:=propB_eq hc
  exact ⟨rfl,60,_,by rw [gsz]; exact (run73 a b).trans (tree73_eq ha hb),rfl,fun ι x h=>h⟩
 ·cases h
theorem run122 (a b:List UInt8):(runK prog pR15 60).call 156 [.sstr a,.sstr b] (Bg 8) finV =
  brK (propB (zOK b)) (brK (propB (zOK a∧zOK (itoa (-(dvalZ b))))) (some (.sstr (itoa (dvalZ a+dvalZ (itoa (-(dvalZ b))))))) none) none:=by kernel_rfl
def zOK' (a:List UInt8):Prop:=isZ a∧a.length < 2 ^ 26 - 1
theorem zOK'_ok {a:List UInt8} (h:zOK' a):zOK a:=⟨h.1,by have:=h.2; omega⟩
theorem zOK'_neg {a:List UInt8} (h:zOK' a):zOK (itoa (-(dvalZ a))):=by
 refine ⟨isZ_itoa _,?_⟩
 have h1:=itoa_len (-(dvalZ a))
 have h2:=(zOK_abs (zOK'_ok h)).1
 have h3:=(absT_len1 a).1
 have h4:=h.2
 rw [h2,itoaN] at h3
 rw [Int.natAbs_neg] at h1
 omega
noncomputable def TJ (op:Int→Int→Int):List Lf→Tr AV
 | [.s a,.s b]=>.br (propB (zOK' a∧zOK' b)) (.leaf (.sstr (itoa (op (dvalZ a) (dvalZ b))))) .fail
 | _=>.fail
noncomputable def pR16:Prims:=pR15.addt 156 (gP [.str,.str] (TJ (· - ·)))
theorem pR16_ok {A:Amb} (hT:Tab A) (hG:prog.globals.size≤A.G):PrimOK prog A pR16:=by
 refine PrimOK.addP hmix hnum (pR15_ok hT hG) (pR15_ok hT hG) hG func156 (by kernel_rfl) fun ls v h=>?_
 unfold TJ at h
 split at h
 ·rename_i a b
  obtain ⟨hc,hv⟩:=Tr.br1 h
  cases hv
  obtain ⟨ha,hb⟩:=propB_eq hc
  refine ⟨rfl,60,.sstr (itoa (dvalZ a - dvalZ b)),?_,rfl,fun ι x h=>h⟩
  rw [gsz]
  refine (run122 a b).trans ?_
  rw [propB_true (zOK'_ok hb),propB_true ⟨zOK'_ok ha,zOK'_neg hb⟩,dvalZ_itoa,Int.sub_eq_add_neg]
  rfl
 ·cases h
theorem run114 (a b:List UInt8):(runK prog pR16 60).call 110 [.sstr a,.sstr b] (Bg 8) finV =
  brK (propB (zOK' a∧zOK' b)) (brK (itoa (dvalZ a - dvalZ b) == [48]) (some (.int .i64 0)) (brK (propB (isZ (itoa (dvalZ a - dvalZ b)))) (brK (decide (dvalZ (itoa (dvalZ a - dvalZ b)) < 0)) (some (.int .i64 (-1))) (some (.int .i64 1))) none)) none:=by kernel_rfl
noncomputable def T114:List Lf→Tr AV
 | [.s a,.s b]=>.br (propB (zOK' a∧zOK' b)) (.leaf (.sint .i64 (sgnZ (dvalZ a - dvalZ b)))) .fail
 | _=>.fail
noncomputable def pR17:Prims:=pR16.addt 110 (gP [.str,.str] T114)
theorem pR17_ok {A:Amb} (hT:Tab A) (hG:prog.globals.size≤A.G):PrimOK prog A pR17:=by
 refine PrimOK.addP hmix hnum (pR16_ok hT hG) (pR16_ok hT hG) hG func110 (by kernel_rfl) fun ls v h=>?_
 unfold T114 at h
 split at h
 ·rename_i a b
  obtain ⟨hc,hv⟩:=Tr.br1 h
  cases hv
  have hab:=propB_eq hc
  have hk:=run114 a b
  refine ⟨rfl,60,.int .i64 (sgnZ (dvalZ a - dvalZ b)),?_,rfl,fun ι x=>vr_int rfl x⟩
  rw [gsz]
  refine hk.trans ?_
  rw [propB_true hab,brK_t,itoa_is0,propB_true (isZ_itoa _),dvalZ_itoa]
  unfold sgnZ
  by_cases h0:dvalZ a - dvalZ b=0
  ·rw [decide_eq_true h0,if_pos h0]; rfl
  ·rw [decide_eq_false h0,if_neg h0]
   by_cases h1:dvalZ a - dvalZ b < 0
   ·rw [decide_eq_true h1,if_pos h1]; rfl
   ·rw [decide_eq_false h1,if_neg h1]; rfl
 ·cases h
end Go.Proofs.Tryz
namespace Go.Proofs.Tryz
open Go.Ad
open Go.Lib (decDigits itoa nDigits decFrom digitVal)
noncomputable abbrev fin72 (x y r:Int):Option (List Lf) :=
 brK (decide ¬ y=0) (brK (propB (IntKind.i64=.i64∧-(2 ^ 63) < W ((W (x - r)).tdiv y)∧W ((W (x - r)).tdiv y) < 2 ^ 63)) (brK (propB (IntKind.i64=.i64∧-(2 ^ 63) < r∧r < 2 ^ 63)) (some [.s (itoa (W ((W (x - r)).tdiv y))),.s (itoa r)]) none) none) none
noncomputable abbrev sm72 (x y:Int):Option (List Lf) :=
 brK (decide ¬ y=0) (brK (x.tmod y != 0) (brK (!(decide (x.tmod y < 0) == decide (y < 0))) (fin72 x y (W (x.tmod y+y))) (fin72 x y (x.tmod y))) (fin72 x y (x.tmod y))) none
noncomputable abbrev mul72 (a b out:List UInt8):Option (List Lf) :=
 brK (propB (zOK out∧zOK b)) (brK (propB (zOK' a∧zOK' (itoa (dvalZ out*dvalZ b)))) (some [.s out,.s (itoa (dvalZ a - dvalZ (itoa (dvalZ out*dvalZ b))))]) none) none
noncomputable abbrev q72 (a b:List UInt8) (la lb:Bool) (r q:List UInt8):Option (List Lf) :=
 brK (!(r == [48])) (brK (propB (isZ a)) (brK (propB (isZ b)) (brK (!(la == lb)) (brK (propB (zOK' q∧zOK' [49])) (mul72 a b (itoa (dvalZ q - dvalZ [49]))) none) (mul72 a b q)) none) none) (mul72 a b q)
noncomputable abbrev big72 (a b x y:List UInt8) (la lb:Bool):Option (List Lf) :=
 brK (propB (x.all isDg=true∧x ≠ []∧y=itoa (digW 0 y:Nat)∧0 < digW 0 y∧x.length < 2 ^ 28∧y.length < 2 ^ 28)) (brK (propB (isZ a)) (brK (propB (isZ b)) (brK (decide (1+(itoa (digW 0 x / digW 0 y:Nat)).length < 4611686018427387904))
  (q72 a b la lb (itoa (digW 0 x % digW 0 y:Nat)) (sgnT (itoa (digW 0 x / digW 0 y:Nat)) (!(la == lb)))) none) none) none) none
theorem run72 (a b:List UInt8):(runK prog pR17 60).call 109 (spSS.rho [.s a,.s b]) (spSS.heap [.s a,.s b]) (finQ spSS 8 []) =
  brK (propB (isZ a∧isZ b)) (brK (brOK a b) (sm72 (bif brOK a b then dvalZ a else 0) (bif brOK a b then dvalZ b else 0)) (big72 a b (absT a) (absT b) (decide (dvalZ a < 0)) (decide (dvalZ b < 0)))) none:=by kernel_rfl
theorem tdiv_exact {x y q:Int} (h:x=y*q) (hy:y ≠ 0):x.tdiv y=q:=by
 subst h
 exact Int.mul_tdiv_cancel_left q hy
theorem fin72_eq {x y q r:Int} (h:r+y*q=x) (hy:y ≠ 0) (x1:x.natAbs < 10 ^ 18) (r1:r.natAbs < 2 ^ 62) (q1:q.natAbs < 2 ^ 62):fin72 x y r=some [.s (itoa q),.s (itoa r)]:=by
 have e:(x - r).tdiv y=q:=tdiv_exact (by omega) hy
 unfold fin72
 rw [W_id (n:=x - r) (by omega) (by omega),e,W_id (n:=q) (by omega) (by omega),decide_eq_true hy,propB_true ⟨rfl,by omega,by omega⟩,propB_true ⟨rfl,by omega,by omega⟩]
 rfl
theorem sm72_eq {x y:Int} (hy:y ≠ 0) (x1:x.natAbs < 10 ^ 18) (y1:y.natAbs < 10 ^ 18):sm72 x y=some [.s (itoa (x.fdiv y)),.s (itoa (x.fmod y))]:=by
 have h0:=Int.tmod_add_mul_tdiv x y
 have hr:(x.tmod y).natAbs < y.natAbs:=by
  rw [Int.natAbs_tmod]
  exact Nat.mod_lt _ (by omega)
 have hq:(x.tdiv y).natAbs≤x.natAbs:=by
  rw [Int.natAbs_tdiv]
  exact Nat.div_le_self _ _
 unfold sm72
 generalize x.tmod y=r at *
 generalize x.tdiv y=q at *
 rw [decide_eq_true hy,brK_t]
 by_cases hr0:r=0
 ·obtain ⟨f1,f2⟩:=floorZ (A:=x) (B:=y) (q:=q) (r:=r) h0 (by omega)
  rw [f1,f2,show (r != 0)=false by simpa using hr0,brK_f]
  exact fin72_eq h0 hy (by omega) (by omega) (by omega)
 ·rw [show (r != 0)=true by simpa using hr0,brK_t]
  by_cases hs:(r < 0 ↔ y < 0)
  ·obtain ⟨f1,f2⟩:=floorZ (A:=x) (B:=y) (q:=q) (r:=r) h0 (by omega)
   rw [f1,f2,show (decide (r < 0) == decide (y < 0))=true by rw [beq_iff_eq]; exact decide_eq_decide.2 hs]
   exact fin72_eq h0 hy (by omega) (by omega) (by omega)
  ·have hm:y*(q - 1)=y*q - y:=by rw [Int.mul_sub,Int.mul_one]
   have h1:r+y+y*(q - 1)=x:=by rw [hm]; omega
   obtain ⟨f1,f2⟩:=floorZ (A:=x) (B:=y) (q:=q - 1) (r:=r+y) h1 (by omega)
   rw [f1,f2,show (decide (r < 0) == decide (y < 0))=false by rw [beq_eq_false_iff_ne]; exact fun e=>hs (decide_eq_decide.1 e),W_id (n:=r+y) (by omega) (by omega)]
   exact fin72_eq h1 hy (by omega) (by omega) (by omega)
def zOKp (a:List UInt8):Prop:=isZ a∧a.length < 2 ^ 24
theorem zOKp_ok {a:List UInt8} (h:zOKp a):zOK' a:=⟨h.1,by have:=h.2; omega⟩
theorem itoa_len_le {Z:Int} {k:Nat} (h:Z.natAbs < 10 ^ k) (h1:1≤k):(itoa Z).length≤k+1:=by
 have h2:=itoa_len Z
 have h3:=dec_len_lt h h1
 omega
theorem mul72_eq {a b:List UInt8} {Q:Int} (ha:zOKp a) (hb:zOKp b) (hq:Q.natAbs < 10 ^ (a.length+1)):mul72 a b (itoa Q)=some [.s (itoa Q),.s (itoa (dvalZ a - Q*dvalZ b))]:=by
 have h1:=ha.2
 have h2:=hb.2
 have hB:=isZ_lt hb.1
 have hl:=itoa_len_le hq (by omega)
 have h3:(Q*dvalZ b).natAbs < 10 ^ (a.length+1+b.length):=by
  rw [Int.natAbs_mul,Nat.pow_add]
  exact Nat.mul_lt_mul'' hq hB
 have hl2:=itoa_len_le h3 (by omega)
 unfold mul72
 rw [dvalZ_itoa,dvalZ_itoa,propB_true ⟨⟨isZ_itoa _,by omega⟩,zOK'_ok (zOKp_ok hb)⟩,propB_true ⟨zOKp_ok ha,isZ_itoa _,by omega⟩]
 rfl
theorem isZ_ne {a:List UInt8} (h:isZ a):a ≠ []:=by
 unfold isZ at h
 rw [h]; exact itoa_ne _
theorem big72_eq {a b:List UInt8} (ha:zOKp a) (hb:zOKp b) (h0:dvalZ b ≠ 0) :
  big72 a b (absT a) (absT b) (decide (dvalZ a < 0)) (decide (dvalZ b < 0))=some [.s (itoa ((dvalZ a).fdiv (dvalZ b))),.s (itoa ((dvalZ a).fmod (dvalZ b)))]:=by
 obtain ⟨a1,a2⟩:=zOK_abs (zOK'_ok (zOKp_ok ha))
 obtain ⟨b1,b2⟩:=zOK_abs (zOK'_ok (zOKp_ok hb))
 have hA:=isZ_lt ha.1
 have hne:=isZ_ne ha.1
 have la:=ha.2
 unfold big72
 rw [a1,b1,digW_itoa,digW_itoa]
 have hU:0 < (dvalZ b).natAbs:=by omega
 have hdm:=Nat.div_add_mod (dvalZ a).natAbs (dvalZ b).natAbs
 have hlt:=Nat.mod_lt (dvalZ a).natAbs hU
 have hQ:(dvalZ a).natAbs / (dvalZ b).natAbs≤(dvalZ a).natAbs:=Nat.div_le_self _ _
 have hlq:(itoa (((dvalZ a).natAbs / (dvalZ b).natAbs:Nat):Int)).length≤(itoa ((dvalZ a).natAbs:Int)).length:=len_mono hQ
 rw [propB_true ⟨itoaN_all _,itoa_ne _,rfl,hU,by omega,by omega⟩,propB_true ha.1,propB_true hb.1,brK_t,brK_t,brK_t,decide_eq_true (show 1+(itoa (((dvalZ a).natAbs / (dvalZ b).natAbs:Nat):Int)).length < 4611686018427387904 by omega),brK_t,sgnT_sv]
 generalize hV:(dvalZ a).natAbs=V at *
 generalize hUU:(dvalZ b).natAbs=U at *
 generalize V / U=Q at *
 generalize V % U=R at *
 have hZ:(V:Int)=(U:Int)*(Q:Int)+(R:Int):=by exact_mod_cast hdm.symm
 have hQ10:Q < 10 ^ a.length:=by omega
 have hp10:1≤10 ^ a.length:=Nat.one_le_pow _ _ (by decide)
 have hsvQ:∀ s:Bool,(sv s Q).natAbs=Q:=fun s=>by cases s <;> simp [sv]
 have fl:=@floorZ (dvalZ a) (dvalZ b)
 have hm1:(U:Int)*-(Q:Int)=-((U:Int)*Q):=Int.mul_neg _ _
 have hm2:-(U:Int)*(Q:Int)=-((U:Int)*Q):=Int.neg_mul _ _
 have hm3:-(U:Int)*-(Q:Int)=(U:Int)*Q:=by rw [Int.neg_mul,Int.mul_neg,Int.neg_neg]
 have hm4:(U:Int)*(-(Q:Int) - 1)=-((U:Int)*Q) - U:=by rw [Int.mul_sub,Int.mul_one,hm1]
 have hm5:-(U:Int)*(-(Q:Int) - 1)=(U:Int)*Q+U:=by rw [Int.mul_sub,Int.mul_one,hm3]; omega
 have key:∀ q r:Int,r+dvalZ b*q=dvalZ a→q.natAbs < 10 ^ (a.length+1)→((0 < dvalZ b∧0≤r∧r < dvalZ b) ∨ (dvalZ b < 0∧dvalZ b < r∧r≤0)) →
   mul72 a b (itoa q)=some [.s (itoa ((dvalZ a).fdiv (dvalZ b))),.s (itoa ((dvalZ a).fmod (dvalZ b)))]:=fun q r h1 h2 h3=>by
  obtain ⟨f1,f2⟩:=fl h1 h3
  rw [mul72_eq ha hb h2,f1,f2,show dvalZ a - q*dvalZ b=r by rw [Int.mul_comm]; omega]
 have hsz:∀ n:Nat,n≤Q+1→n < 10 ^ (a.length+1):=fun n hn=>by rw [Nat.pow_succ]; omega
 unfold q72
 by_cases hR:R=0
 ·subst hR
  rw [show (itoa ((0:Nat):Int) == [48])=true from by rw [show ((0:Nat):Int)=0 from rfl,itoa0]; rfl]
  show mul72 a b _=_
  refine key (sv (!(decide (dvalZ a < 0) == decide (dvalZ b < 0))) Q) 0 ?_ (by rw [hsvQ]; exact hsz _ (by omega)) (by omega)
  by_cases ha0:dvalZ a < 0 <;> by_cases hb0:dvalZ b < 0
  ·rw [decide_eq_true ha0,decide_eq_true hb0,show (!(true == true))=false from rfl,sv_f,show dvalZ b=-(U:Int) by omega,hm2]; omega
  ·rw [decide_eq_true ha0,decide_eq_false hb0,show (!(true == false))=true from rfl,sv_t,show dvalZ b=(U:Int) by omega,hm1]; omega
  ·rw [decide_eq_false ha0,decide_eq_true hb0,show (!(false == true))=true from rfl,sv_t,show dvalZ b=-(U:Int) by omega,hm3]; omega
  ·rw [decide_eq_false ha0,decide_eq_false hb0,show (!(false == false))=false from rfl,sv_f,show dvalZ b=(U:Int) by omega]; omega
 ·rw [show (itoa ((R:Nat):Int) == [48])=false by rw [itoa_is0]; exact decide_eq_false (by omega),propB_true ha.1,propB_true hb.1]
  show brK (!(decide (dvalZ a < 0) == decide (dvalZ b < 0))) _ _=_
  by_cases ha0:dvalZ a < 0 <;> by_cases hb0:dvalZ b < 0
  ·rw [decide_eq_true ha0,decide_eq_true hb0]
   show mul72 a b (itoa (sv false Q))=_
   rw [sv_f]
   refine key Q (-(R:Int)) ?_ (hsz _ (by omega)) (by omega)
   rw [show dvalZ b=-(U:Int) by omega,hm2]; omega
  ·rw [decide_eq_true ha0,decide_eq_false hb0]
   show brK (propB (zOK' (itoa (sv true Q))∧zOK' [49])) (mul72 a b (itoa (dvalZ (itoa (sv true Q)) - 1))) none=_
   have hlen:=itoa_len_le (Z:=sv true Q) (k:=a.length) (by rw [hsvQ]; exact hQ10) (by cases a with | nil=>exact (hne rfl).elim | cons=>simp)
   rw [dvalZ_itoa,propB_true ⟨⟨isZ_itoa _,by omega⟩,by unfold isZ; exact itoa_1.symm,by decide⟩,brK_t,sv_t]
   refine key (-(Q:Int) - 1) ((U:Int) - R) ?_ (hsz _ (by omega)) (by omega)
   rw [show dvalZ b=(U:Int) by omega,hm4]; omega
  ·rw [decide_eq_false ha0,decide_eq_true hb0]
   show brK (propB (zOK' (itoa (sv true Q))∧zOK' [49])) (mul72 a b (itoa (dvalZ (itoa (sv true Q)) - 1))) none=_
   have hlen:=itoa_len_le (Z:=sv true Q) (k:=a.length) (by rw [hsvQ]; exact hQ10) (by cases a with | nil=>exact (hne rfl).elim | cons=>simp)
   rw [dvalZ_itoa,propB_true ⟨⟨isZ_itoa _,by omega⟩,by unfold isZ; exact itoa_1.symm,by decide⟩,brK_t,sv_t]
   refine key (-(Q:Int) - 1) ((R:Int) - U) ?_ (hsz _ (by omega)) (by omega)
   rw [show dvalZ b=-(U:Int) by omega,hm5]; omega
  ·rw [decide_eq_false ha0,decide_eq_false hb0]
   show mul72 a b (itoa (sv false Q))=_
   rw [sv_f]
   refine key Q R ?_ (hsz _ (by omega)) (by omega)
   rw [show dvalZ b=(U:Int) by omega]; omega
noncomputable def T72:List Lf→Tr (SP × List Lf)
 | [.s a,.s b]=>.br (propB (zOKp a∧zOKp b∧dvalZ b ≠ 0)) (.leaf (spSS,[.s (itoa ((dvalZ a).fdiv (dvalZ b))),.s (itoa ((dvalZ a).fmod (dvalZ b)))])) .fail
 | _=>.fail
noncomputable def pR18:Prims:=pR17.addh 109 (liftG 8 (funQ spSS 8 [] T72))
theorem pR18_ok {A:Amb} (hT:Tab A) (hG:prog.globals.size≤A.G):PrimOK prog A pR18:=by
 refine (pR17_ok hT hG).addl gsz func109 (by kernel_rfl) (funQ_ok hmix hnum rfl fun ls sq l h=>?_)
 unfold T72 at h
 split at h
 ·rename_i a b
  obtain ⟨hc,hv⟩:=Tr.br1 h
  cases hv
  obtain ⟨ha,hb,h0⟩:=propB_eq hc
  refine ⟨⟨.inr rfl,.inr rfl,.inr rfl,.inr rfl,.inr rfl,.inr rfl,.inr rfl,.inr rfl,trivial⟩,rfl,pR17,60,_,pR17_ok hT hG,(run72 a b).trans ?_,fun _ _=>.refl⟩
  rw [propB_true ⟨ha.1,hb.1⟩,brK_t]
  cases hbr:brOK a b with
  | true =>
   obtain ⟨h1,h2⟩:=brOK_lt ha.1 hb.1 hbr
   rw [brK_t,cond_true,cond_true]
   exact sm72_eq h0 h1 h2
  | false=>exact big72_eq ha hb h0
 ·cases h
noncomputable def code115:Code:=f106.body.getD .skip
noncomputable def bodySh:Code:=unLoop (findB 0 code115)
noncomputable def bodyShI:Code:=unLoop (findB 2 code115)
noncomputable def h0':Code:=fstC code115
noncomputable def h1':Code:=fstC (sndC code115)
noncomputable def h2':Code:=fstC (sndC (sndC code115))
noncomputable def h3':Code:=sndC (sndC (sndC code115))
theorem code115_eq:code115=.seq h0' (.seq h1' (.seq h2' h3')):=by kernel_rfl
theorem h2_eq:h2'=.block 0 (.loop bodySh):=by kernel_rfl
def spShI:SP:=⟨dr 5++[.int .i64,.int .i64]++dr 36,dd8⟩
def spSh:SP:=⟨[.str,.str]++dr 41,dd8⟩
def spShE:SP:=⟨dr 4++[.str]++dr 38,dd8⟩
def exSh:AEx→SP
 | .ret=>spShE
 | _=>spSh
theorem roundShI (m n:Int):execK prog (runK prog pR18 60) noBps bodyShI (spShI.rho [.i m,.i n]) (spShI.heap [.i m,.i n]) (nrmP (fun _=>spShI) 8 []) =
  brK (decide (n > 0)) (brK (decide ¬n=0) (some (.normal,[.i n,.i (m.tmod n)])) none) (some (.exit 2,[.i m,.i n])):=by kernel_rfl
noncomputable def hookShI:Blk:=hookP spShI 8 [] fun
 | [.i m,.i n]=>.br (propB (0≤m∧0≤n)) (.leaf (.normal,spShI,[.i (m.toNat.gcd n.toNat:Nat),.i 0])) .fail
 | _=>.fail
theorem roundSh (a b:List UInt8):execK prog (runK prog pR18 60) (oneB 2 hookShI) bodySh (spSh.rho [.s a,.s b]) (spSh.heap [.s a,.s b]) (nrmP exSh 8 []) =
  brK (!(b == [48])) (brK (propB (isZ a∧isZ b)) (brK (brOK a b) (brK (propB (0≤(bif brOK a b then dvalZ a else 0)∧0≤(bif brOK a b then dvalZ b else 0)))
   ((fun g:Nat=>brK (propB (IntKind.i64=.i64∧-(2 ^ 63) < (g:Int)∧(g:Int) < 2 ^ 63)) (some (.ret,[.s (itoa (g:Int))])) none) ((bif brOK a b then dvalZ a else 0).toNat.gcd (bif brOK a b then dvalZ b else 0).toNat)) none)
   (brK (propB (zOKp a∧zOKp b∧dvalZ b ≠ 0)) (some (.normal,[.s b,.s (itoa ((dvalZ a).fmod (dvalZ b)))])) none)) none) (some (.exit 0,[.s a,.s b])):=by kernel_rfl
def stSh (X Y:Nat):St:=⟨spSh.rho [.s (itoa (X:Nat)),.s (itoa (Y:Nat))],spSh.heap [.s (itoa (X:Nat)),.s (itoa (Y:Nat))],[]⟩
def stShE (s:List UInt8):St:=⟨spShE.rho [.s s],spShE.heap [.s s],[]⟩
section
variable {A:Amb} (hT:Tab A) (hG:prog.globals.size≤A.G)
include hT hG
theorem hookShI_ok:∀ ρ B e' ρ' B' D,(hookShI ρ B).get=some (e',ρ',B',D)→AFr B B' D∧SEB prog A B (.block 2 (.loop bodyShI)) ⟨ρ,B,[]⟩ e' ⟨ρ',B',D⟩:=by
 have hp:=pR18_ok hT hG
 refine hookP_ok rfl fun ls e sq l h=>?_
 split at h
 ·rename_i m n
  obtain ⟨hc,hv⟩:=Tr.br1 h
  cases hv
  obtain ⟨hm,hn⟩:=propB_eq hc
  obtain ⟨m,rfl⟩:=Int.eq_ofNat_of_zero_le hm
  obtain ⟨n,rfl⟩:=Int.eq_ofNat_of_zero_le hn
  rw [Int.toNat_natCast,Int.toNat_natCast]
  refine ⟨⟨.inr rfl,.inr rfl,.inr rfl,.inr rfl,.inr rfl,.inr rfl,.inr rfl,.inr rfl,trivial⟩,fun Bb hB=>SEB.block_exit (id:=2) ?_⟩
  refine SEB.while (fun _:Nat × Nat=>True) (fun s=>s.2) (fun s=>⟨spShI.rho [.i s.1,.i s.2],spShI.heap [.i s.1,.i s.2],[]⟩) (fun s=>(.exit 2,⟨spShI.rho [.i (s.1.gcd s.2:Nat),.i 0],spShI.heap [.i (s.1.gcd s.2:Nat),.i 0],[]⟩)) (fun s _=>?_) (m,n) trivial
  obtain ⟨m,n⟩:=s
  by_cases h0:n=0
  ·subst h0
   right
   refine ⟨by simp,?_⟩
   have hk:=roundShI (m:Int) ((0:Nat):Int)
   rw [show decide (((0:Nat):Int) > 0)=false from rfl] at hk
   simp only [Nat.gcd_zero_right]
   exact SEB.of_KP (A:=A) (B0:=Bb) (e:=.exit 2) hmix hnum hp (.none _) hB hk rfl
  ·left
   refine ⟨(n,m % n),trivial,Nat.mod_lt _ (Nat.pos_of_ne_zero h0),?_,?_⟩
   ·show ((AEx.exit 2,(_:St)):AEx × St)=_
    have:n.gcd (m % n)=m.gcd n:=by rw [Nat.gcd_comm,← Nat.gcd_rec,Nat.gcd_comm]
    rw [this]
   ·have hk:=roundShI (m:Int) (n:Int)
    rw [decide_eq_true (show (n:Int) > 0 by omega),decide_eq_true (show ¬ (n:Int)=0 by omega)] at hk
    exact SEB.of_KP (A:=A) (B0:=Bb) (e:=.normal) hmix hnum hp (.none _) hB hk rfl
 ·cases h
theorem loopSh {Bb:Heap} (hB:Bb.length=8):∀ (Y X:Nat),(itoa (X:Int)).length < 2 ^ 24→(itoa (Y:Int)).length < 2 ^ 24 →
  ∃ e s',SEB prog A Bb (.loop bodySh) (stSh X Y) e s'∧((e=.ret∧s'=stShE (itoa (X.gcd Y:Nat))) ∨ (e=.exit 0∧s'=stSh (X.gcd Y) 0)):=by
 have hp:=pR18_ok hT hG
 have hblk:BlkOK prog A (oneB 2 hookShI) bodySh:=BlkOK.one (body:=.loop bodyShI) (by kernel_rfl) fun ρ B e ρ' B' D hq=>(hookShI_ok hT hG ρ B e ρ' B' D hq).2
 intro Y
 induction Y using Nat.strongRecOn with
 | _ Y ih =>
  intro X hX hY
  have hk:=roundSh (itoa (X:Nat)) (itoa (Y:Nat))
  by_cases h0:Y=0
  ·subst h0
   rw [show (!(itoa ((0:Nat):Int) == [48]))=false by rw [itoa_is0]; rfl,brK_f] at hk
   rw [Nat.gcd_zero_right]
   exact ⟨.exit 0,_,SEB.loop_exit (SEB.of_KP (A:=A) (B0:=Bb) (e:=.exit 0) hmix hnum hp hblk hB hk rfl) (by simp),.inr ⟨rfl,rfl⟩⟩
  ·rw [show (!(itoa ((Y:Nat):Int) == [48]))=true by rw [itoa_is0,decide_eq_false (by omega)]; rfl,brK_t,propB_true ⟨isZ_itoa _,isZ_itoa _⟩,brK_t] at hk
   have hg:Y.gcd (X % Y)=X.gcd Y:=by rw [Nat.gcd_comm,← Nat.gcd_rec,Nat.gcd_comm]
   have hmod:=Nat.mod_lt X (Nat.pos_of_ne_zero h0)
   cases hbr:brOK (itoa (X:Nat)) (itoa (Y:Nat)) with
   | true =>
    obtain ⟨b1,b2⟩:=brOK_lt (isZ_itoa _) (isZ_itoa _) hbr
    rw [dvalZ_itoa,Int.natAbs_natCast] at b1 b2
    have hgl:X.gcd Y≤Y:=Nat.gcd_le_right _ (Nat.pos_of_ne_zero h0)
    rw [hbr,brK_t,cond_true,cond_true,dvalZ_itoa,dvalZ_itoa,propB_true ⟨by omega,by omega⟩,brK_t,Int.toNat_natCast,Int.toNat_natCast] at hk
    dsimp only at hk
    rw [propB_true ⟨rfl,by omega,by omega⟩] at hk
    exact ⟨.ret,_,SEB.loop_exit (SEB.of_KP (A:=A) (B0:=Bb) (e:=.ret) hmix hnum hp hblk hB hk rfl) (by simp),.inl ⟨rfl,rfl⟩⟩
   | false =>
    have hfm:((X:Int)).fmod (Y:Int)=((X % Y:Nat):Int):=by rw [Int.fmod_eq_emod_of_nonneg _ (by omega)]; rfl
    rw [hbr,brK_f,dvalZ_itoa,dvalZ_itoa,propB_true ⟨⟨isZ_itoa _,hX⟩,⟨isZ_itoa _,hY⟩,by omega⟩,brK_t,hfm] at hk
    have hs:=SEB.of_KP (A:=A) (B0:=Bb) (e:=.normal) hmix hnum hp hblk hB hk rfl
    obtain ⟨e,s',l1,l2⟩:=ih (X % Y) hmod Y hY (Nat.lt_of_le_of_lt (len_mono (Nat.mod_le _ _)) hX)
    rw [hg] at l2
    exact ⟨e,s',SEB.loop_next hs l1,l2⟩
end
theorem runSh0 (a b:List UInt8):execK prog (runK prog pR18 60) noBps h0' ([.sstr a,.sstr b]++List.replicate 41 aundef) (Bg 8) (nrmP exSh 8 [])=some (.normal,[.s a,.s b]):=by kernel_rfl
theorem runSh1 (a b:List UInt8):execK prog (runK prog pR18 60) noBps h1' (spSh.rho [.s a,.s b]) (spSh.heap [.s a,.s b]) (nrmP exSh 8 []) =
  brK (decide (1+(absT a).length < 4611686018427387904)) (brK (decide (1+(absT b).length < 4611686018427387904)) (some (.normal,[.s (sgnT (absT a) false),.s (sgnT (absT b) false)])) none) none:=by kernel_rfl
theorem runSh3 (a b:List UInt8):execK prog (runK prog pR18 60) noBps h3' (spSh.rho [.s a,.s b]) (spSh.heap [.s a,.s b]) (nrmP exSh 8 [])=some (.ret,[.s a]):=by kernel_rfl
section
variable {A:Amb} (hT:Tab A) (hG:prog.globals.size≤A.G)
include hT hG
theorem sebSh {a b:List UInt8} (ha:zOKp a) (hb:zOKp b):SEB prog A (Bg 8) code115 ⟨[.sstr a,.sstr b]++List.replicate 41 aundef,Bg 8,[]⟩ .ret (stShE (itoa (Int.gcd (dvalZ a) (dvalZ b):Nat))):=by
 have hp:=pR18_ok hT hG
 have hB:(Bg 8).length=8:=rfl
 rw [code115_eq]
 refine SEB.seq (SEB.of_KP (A:=A) (e:=.normal) hmix hnum hp (.none _) hB (runSh0 a b) rfl) ?_
 have k1:=runSh1 a b
 have la:=(absT_len1 a).1
 have lb:=(absT_len1 b).1
 have la2:=ha.2
 have lb2:=hb.2
 rw [decide_eq_true (show 1+(absT a).length < 4611686018427387904 by omega),decide_eq_true (show 1+(absT b).length < 4611686018427387904 by omega),show sgnT (absT a) false=absT a from rfl,show sgnT (absT b) false=absT b from rfl,
  isZ_abs ha.1,isZ_abs hb.1] at k1
 refine SEB.seq (SEB.of_KP (A:=A) (e:=.normal) hmix hnum hp (.none _) hB k1 rfl) ?_
 rw [isZ_abs ha.1] at la
 rw [isZ_abs hb.1] at lb
 obtain ⟨e,s',l1,l2⟩:=loopSh hT hG hB (dvalZ b).natAbs (dvalZ a).natAbs (by omega) (by omega)
 rw [h2_eq]
 rcases l2 with ⟨rfl,rfl⟩ | ⟨rfl,rfl⟩
 ·exact SEB.seq_exit (SEB.block_other l1 (by simp)) (by simp)
 ·refine SEB.seq (SEB.block_exit l1) ?_
  exact SEB.of_KP (A:=A) (e:=.ret) hmix hnum hp (.none _) hB (runSh3 _ _) rfl
end
noncomputable def T115:List Lf→Tr (SP × List Lf)
 | [.s a,.s b]=>.br (propB (zOKp a∧zOKp b)) (.leaf (spS1,[.s (itoa (Int.gcd (dvalZ a) (dvalZ b):Nat))])) .fail
 | _=>.fail
noncomputable def pSh (a b x:List UInt8):Prims:=pR18.addh 106 (gPin [.sstr a,.sstr b] (Bg 8) (.sstr x) (Bg 8) [])
theorem runSh (a b x:List UInt8):(runK prog (pSh a b x) 60).call 106 (spSS.rho [.s a,.s b]) (spSS.heap [.s a,.s b]) (finP spS1 8 []) =
  brK (propB (([.sstr a,.sstr b]:List AV)=[.sstr a,.sstr b]∧Bg 8=Bg 8)) (some [.s x]) none:=by kernel_rfl
noncomputable def pR19:Prims:=pR18.addh 106 (liftG 8 (funP spSS 8 [] T115))
theorem pR19_ok {A:Amb} (hT:Tab A) (hG:prog.globals.size≤A.G):PrimOK prog A pR19:=by
 refine (pR18_ok hT hG).addl gsz func106 (by kernel_rfl) (funP_ok hmix hnum rfl fun ls sq l h=>?_)
 unfold T115 at h
 split at h
 ·rename_i a b
  obtain ⟨hc,hv⟩:=Tr.br1 h
  cases hv
  obtain ⟨ha,hb⟩:=propB_eq hc
  refine ⟨⟨.inr rfl,.inr rfl,.inr rfl,.inr rfl,.inr rfl,.inr rfl,.inr rfl,.inr rfl,trivial⟩,rfl,rfl,pSh a b (itoa (Int.gcd (dvalZ a) (dvalZ b):Nat)),60,?_,(runSh a b _).trans ?_⟩
  ·refine PrimOK.body (pR18_ok hT hG) func106 (show f106.body=some code115 by kernel_rfl) fun args B v B' D hq=>?_
   obtain ⟨hc1,hv⟩:=Tr.br_get0 hq
   obtain ⟨rfl,rfl⟩:=propB_eq hc1
   simp only [Tr.get,Option.some.injEq,Prod.mk.injEq] at hv
   obtain ⟨rfl,rfl,rfl⟩:=hv
   exact ⟨⟨Nat.le_refl _,fun _ _ _=>rfl⟩,[.sstr a,.sstr b],.ret,_,[.sstr (itoa (Int.gcd (dvalZ a) (dvalZ b):Nat))],fun _ _ h=>h,sebSh hT hG ha hb,by simp,rfl,rfl,rfl,rfl⟩
  ·rw [propB_true ⟨rfl,rfl⟩,brK_t]
 ·cases h
end Go.Proofs.Tryz
