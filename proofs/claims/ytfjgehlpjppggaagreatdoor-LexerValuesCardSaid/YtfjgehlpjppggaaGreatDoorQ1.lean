/- The reference's quotients: slash, Split. -/
import Derived.Test.YtfjgehlpjppggaaGreatDoorR7
import Derived.Test.YtfjgehlpjppggaaGreatDoorVal1
import Derived.Test.YtfjgehlpjppggaaGreatDoorAdRat
namespace Go.Proofs.Tryz
open Go.Ad
open Go.Lib (decDigits itoa nDigits)
noncomputable def code94 : Code := f94.body.getD .skip
noncomputable def bodySl : Code := unLoop (findB 0 code94)
def spSl : SP := ⟨[.str] ++ dr 1 ++ [.is (.int .i64 0), .int .i64] ++ dr 11, dd8⟩
def spSlR : SP := ⟨dr 2 ++ [.int .i64] ++ dr 12, dd8⟩
def exSl : AEx → SP
 | .ret => spSlR
 | _ => spSl
theorem roundSl (s : List UInt8) (i : Int) : execK prog (runK prog lib2 60) noBps bodySl (spSl.rho [.s s, .i i]) (spSl.heap [.s s, .i i]) (nrmP exSl 8 []) =
  brK (decide (i < (s.length : Int))) (brK (decide (0 ≤ i ∧ i < (s.length : Int))) (brK (((s.getD i.toNat 0).toNat : Int) == 47) (some (.ret, [.i i])) (some (.normal, [.s s, .i (W (i + 1))]))) none) (some (.exit 0, [.s s, .i i])) := by kernel_rfl
def pSl (s : List UInt8) (n : Nat) : Bool := !((((s.getD n 0).toNat : Int)) == 47)
theorem stepSl (s : List UInt8) (n : Nat) (hs : s.length < 2 ^ 62) : execK prog (runK prog lib2 60) noBps bodySl (spSl.rho [.s s, .i n]) (spSl.heap [.s s, .i n]) (nrmP exSl 8 []) =
  if n < s.length then (bif pSl s n then some (.normal, [.s s, .i ((n + 1 : Nat) : Int)]) else some (.ret, [.i n])) else some (.exit 0, [.s s, .i n]) := by
 rw [roundSl]
 by_cases h : n < s.length
 ·rw [if_pos h, decide_eq_true (show (n : Int) < (s.length : Int) by omega), decide_eq_true (show 0 ≤ (n : Int) ∧ (n : Int) < (s.length : Int) by omega), Int.toNat_natCast, W_id (by omega) (by omega)]
  unfold pSl
  cases ((((s.getD n 0).toNat : Int)) == 47) <;> rfl
 ·rw [if_neg h, decide_eq_false (show ¬ (n : Int) < (s.length : Int) by omega)]; rfl
theorem scan_cut (s : List UInt8) : (Lib.indexByte s 47 = -1 ∧ scanN (pSl s) (s.length - 0) 0 = s.length) ∨ (∃ i : Nat, i < s.length ∧ Lib.indexByte s 47 = i ∧ scanN (pSl s) (s.length - 0) 0 = i) := by
 have hne : ∀ b : UInt8, b ≠ 47 → (!((b.toNat : Int) == 47)) = true := fun b hb => by
  have h2 : b.toNat ≠ 47 := fun e => hb (UInt8.toNat_inj.1 e)
  rw [show ((b.toNat : Int) == 47) = false by rw [beq_eq_false_iff_ne]; omega]; rfl
 rcases cutAt_index 47 s with ⟨e1, e2⟩ | ⟨i, e0, e1, e2⟩
 ·left
  refine ⟨e1, scanN_unique (Nat.zero_le _) (by omega) (fun j _ hj => ?_) (fun h => by omega)⟩
  have hm := cutAt_none_iff.1 e2
  refine hne _ fun e => hm ?_
  rw [← e, List.getD_eq_getElem?_getD, List.getElem?_eq_getElem hj]
  exact List.getElem_mem hj
 ·right
  obtain ⟨h1, h2⟩ := cutAt_some e2
  refine ⟨i, e0, e1, scanN_unique (Nat.zero_le _) (by omega) (fun j _ hj => ?_) (fun _ => ?_)⟩
  ·refine hne _ fun e => h2 ?_
   have hj2 : j < (s.take i).length := by rw [List.length_take]; omega
   have : s.getD j 0 = (s.take i)[j] := by
    rw [List.getD_eq_getElem?_getD, List.getElem?_eq_getElem (by omega), Option.getD_some, List.getElem_take]
   rw [← e, this]
   exact List.getElem_mem hj2
  ·unfold pSl
   have hl : (s.take i).length = i := by rw [List.length_take]; omega
   have : s.getD i 0 = 47 := by
    rw [h1, List.getD_eq_getElem?_getD, List.getElem?_append_right (by omega), hl, Nat.sub_self]; rfl
   rw [this]; rfl
noncomputable def hookSl : Blk := hookP spSl 8 [] fun
 | [.s s, .i i] => .br (propB (i = 0) && szOK s) (.br (decide (Lib.indexByte s 47 < 0)) (.leaf (.normal, spSl, [.s s, .i s.length])) (.leaf (.ret, spSlR, [.i (Lib.indexByte s 47)]))) .fail
 | _ => .fail
noncomputable def pQ0b : Prims := pR19.addb 94 0 hookSl
section
variable {A : Amb} (hT : Tab A) (hG : prog.globals.size ≤ A.G)
include hT hG
theorem pQ0b_ok : PrimOK prog A pQ0b := by
 have hp := lib2_ok hT
 refine PrimOK.addbP (pR19_ok hT hG) func94 (show f94.body = some code94 by kernel_rfl) (body := .loop bodySl) (by kernel_rfl) (by kernel_rfl) fun ls e sq l h => ?_
 split at h
 ·rename_i s i
  obtain ⟨hc, hv⟩ := Tr.br1 h
  rw [Bool.and_eq_true] at hc
  have hi := propB_eq hc.1
  have hs : s.length < 2 ^ 62 := of_decide_eq_true hc.2
  subst hi
  have key : ∀ Bb : Heap, Bb.length = 8 → SEB prog A Bb (.loop bodySl) ⟨spSl.rho [.s s, .i 0], spSl.heap [.s s, .i 0], []⟩ (if scanN (pSl s) (s.length - 0) 0 < s.length then .ret else .exit 0)
    (if scanN (pSl s) (s.length - 0) 0 < s.length then ⟨spSlR.rho [.i (scanN (pSl s) (s.length - 0) 0 : Nat)], spSlR.heap [.i (scanN (pSl s) (s.length - 0) 0 : Nat)], []⟩ else ⟨spSl.rho [.s s, .i (scanN (pSl s) (s.length - 0) 0 : Nat)], spSl.heap [.s s, .i (scanN (pSl s) (s.length - 0) 0 : Nat)], []⟩) := fun Bb hB =>
   SEB.scan (A := A) (B0 := Bb) (c := bodySl) (S := fun n => ⟨spSl.rho [.s s, .i (n : Nat)], spSl.heap [.s s, .i (n : Nat)], []⟩) (E := fun n => if n < s.length then ⟨spSlR.rho [.i (n : Nat)], spSlR.heap [.i (n : Nat)], []⟩ else ⟨spSl.rho [.s s, .i (n : Nat)], spSl.heap [.s s, .i (n : Nat)], []⟩)
    (e := fun n => if n < s.length then .ret else .exit 0) (p := pSl s) (N := s.length) (fun n => by by_cases h : n < s.length <;> simp [h])
    (fun n hn hp1 => by
     have hk := stepSl s n hs
     rw [if_pos hn, hp1, cond_true] at hk
     exact SEB.of_KP (A := A) (B0 := Bb) (e := .normal) hmix hnum hp (.none _) hB hk rfl)
    (fun n hn hp1 => by
     have hk := stepSl s n hs
     by_cases hlt : n < s.length
     ·rw [if_pos hlt, hp1 hlt, cond_false] at hk
      simp only [if_pos hlt]
      exact SEB.of_KP (A := A) (B0 := Bb) (e := .ret) hmix hnum hp (.none _) hB hk rfl
     ·rw [if_neg hlt] at hk
      simp only [if_neg hlt]
      exact SEB.of_KP (A := A) (B0 := Bb) (e := .exit 0) hmix hnum hp (.none _) hB hk rfl) 0 (Nat.zero_le _)
  rcases scan_cut s with ⟨e1, e2⟩ | ⟨i, e0, e1, e2⟩
  ·rw [e1, decide_eq_true (show (-1 : Int) < 0 by omega)] at hv
   cases hv
   refine ⟨⟨.inr rfl, .inr rfl, .inr rfl, .inr rfl, .inr rfl, .inr rfl, .inr rfl, .inr rfl, trivial⟩, fun Bb hB => SEB.block_exit (id := 0) ?_⟩
   have := key Bb hB
   rw [if_neg (by omega), if_neg (by omega), e2] at this
   exact this
  ·rw [e1, decide_eq_false (show ¬ ((i : Nat) : Int) < 0 by omega)] at hv
   cases hv
   refine ⟨⟨.inr rfl, .inr rfl, .inr rfl, .inr rfl, .inr rfl, .inr rfl, .inr rfl, .inr rfl, trivial⟩, fun Bb hB => SEB.block_other (id := 0) ?_ (by simp)⟩
   have := key Bb hB
   rw [if_pos (by omega), if_pos (by omega), e2] at this
   exact this
 ·cases h
end
theorem run94 (a : List UInt8) : (runK prog pQ0b 60).call 94 [.sstr a] (Bg 8) finV =
  brK (propB ((0 : Int) = 0) && szOK a) (brK (decide (Lib.indexByte a 47 < 0)) (some (.int .i64 (-1))) (some (.sint .i64 (Lib.indexByte a 47)))) none := by kernel_rfl
noncomputable def T94 : List Lf → Tr AV
 | [.s a] => .br (szOK a) (.leaf (.sint .i64 (Lib.indexByte a 47))) .fail
 | _ => .fail
noncomputable def pQ0 : Prims := pR19.addt 94 (gP [.str] T94)
theorem pQ0_ok {A : Amb} (hT : Tab A) (hG : prog.globals.size ≤ A.G) : PrimOK prog A pQ0 := by
 refine PrimOK.addP hmix hnum (pQ0b_ok hT hG) (pR19_ok hT hG) hG func94 (by kernel_rfl) fun ls v h => ?_
 unfold T94 at h
 split at h
 ·rename_i a
  obtain ⟨hc, hv⟩ := Tr.br1 h
  cases hv
  have hr := run94 a
  rw [hc, propB_true rfl] at hr
  rcases cutAt_index 47 a with ⟨e1, e2⟩ | ⟨i, e0, e1, e2⟩
  ·rw [e1] at hr ⊢
   exact ⟨rfl, 60, .int .i64 (-1), by rw [gsz]; exact hr, rfl, fun ι x h => vr_int rfl x h⟩
  ·rw [e1, decide_eq_false (show ¬ ((i : Nat) : Int) < 0 by omega)] at hr
   rw [e1]
   exact ⟨rfl, 60, _, by rw [gsz]; exact hr, rfl, fun ι x h => h⟩
 ·cases h
theorem run57 (a : List UInt8) : (runK prog pQ0 60).call 57 (spS1.rho [.s a]) (spS1.heap [.s a]) (finQ spSS 8 []) =
  brK (szOK a) (brK (decide (Lib.indexByte a 47 < 0)) (some [.s a, .s [49]]) (brK (decide (0 ≤ Lib.indexByte a 47 ∧ Lib.indexByte a 47 ≤ (a.length : Int)) && true) (brK (true && decide (0 ≤ W (Lib.indexByte a 47 + 1) ∧ W (Lib.indexByte a 47 + 1) ≤ (a.length : Int)))
   (some [.s ((a.take (Lib.indexByte a 47).toNat).drop 0), .s ((a.take a.length).drop (W (Lib.indexByte a 47 + 1)).toNat)]) none) none)) none := by kernel_rfl
noncomputable def T57 : List Lf → Tr (SP × List Lf)
 | [.s a] => .br (szOK a) (.leaf (spSS, [.s (cutR a).1, .s (cutR a).2.1])) .fail
 | _ => .fail
noncomputable def pQ1 : Prims := pQ0.addh 57 (liftG 8 (funQ spS1 8 [] T57))
theorem pQ1_ok {A : Amb} (hT : Tab A) (hG : prog.globals.size ≤ A.G) : PrimOK prog A pQ1 := by
 refine (pQ0_ok hT hG).addl gsz func57 (by kernel_rfl) (funQ_ok hmix hnum rfl fun ls sq l h => ?_)
 unfold T57 at h
 split at h
 ·rename_i a
  obtain ⟨hc, hv⟩ := Tr.br1 h
  cases hv
  refine ⟨⟨.inr rfl, .inr rfl, .inr rfl, .inr rfl, .inr rfl, .inr rfl, .inr rfl, .inr rfl, trivial⟩, rfl, pQ0, 60, _, pQ0_ok hT hG, (run57 a).trans ?_, fun _ _ => .refl⟩
  have hsz : a.length < 2 ^ 62 := of_decide_eq_true hc
  rw [hc, brK_t]
  unfold cutR
  rcases cutAt_index 47 a with ⟨e1, e2⟩ | ⟨i, e0, e1, e2⟩
  ·rw [e1, e2]; rfl
  ·have e3 : W ((i : Int) + 1) = ((i + 1 : Nat) : Int) := by rw [W_id (by omega) (by omega)]; omega
   rw [e1, e2, e3, decide_eq_false (show ¬ (i : Int) < 0 by omega), decide_eq_true (show 0 ≤ (i : Int) ∧ (i : Int) ≤ (a.length : Int) by omega), decide_eq_true (show 0 ≤ ((i + 1 : Nat) : Int) ∧ ((i + 1 : Nat) : Int) ≤ (a.length : Int) by omega),
    Int.toNat_natCast, Int.toNat_natCast, List.take_length, List.drop_zero]
   rfl
 ·cases h
end Go.Proofs.Tryz
namespace Go.Proofs.Tryz
open Go.Ad
open Go.Lib (decDigits itoa nDigits)
noncomputable abbrev ckQ (a n d : List UInt8) : Option (List Lf) :=
 brK (szOK n) (brK (errI n == 3) (some [.i 3]) (brK (szOK d) (brK (errI d == 3) (some [.i 3]) (brK (szOK n) (brK (errI n != 0) (some [.i 11]) (brK (szOK d) (brK (errI d != 0) (some [.i 11])
  (brK (szOK a) (brK (decide (Lib.indexByte a 47 ≥ 0)) (brK (propB (zOK' d ∧ zOK' [49])) (brK (decide (sgnZ (dvalZ d - dvalZ [49]) ≤ 0)) (some [.i 3]) (brK (propB (zOKp n ∧ zOKp d))
   (brK (!(itoa ((Int.gcd (dvalZ n) (dvalZ d) : Nat) : Int) == [49])) (some [.i 3]) (some [.i 0])) none)) none) (some [.i 0])) none)) none)) none)) none)) none
theorem run69 (a : List UInt8) : (runK prog pQ1 60).call 69 (spS1.rho [.s a]) (spS1.heap [.s a]) (finP spI 8 []) = brK (szOK a) (ckQ a (cutR a).1 (cutR a).2.1) none := by kernel_rfl
theorem zOKp_err {a : List UInt8} (h : errI a = 0) : zOKp a := by
 have e := itoa_of h
 have h2 : errI (itoa (dvalZ a)) = 0 := by rw [← e]; exact h
 have := errI_len h2
 rw [← e] at this
 exact ⟨e, by omega⟩
theorem slash_cut (a : List UInt8) : decide (Lib.indexByte a 47 ≥ 0) = (cutR a).2.2 := by
 unfold cutR
 rcases cutAt_index 47 a with ⟨e1, e2⟩ | ⟨i, e0, e1, e2⟩
 ·rw [e1, e2]; rfl
 ·rw [e1, e2, decide_eq_true (by omega)]
theorem ckQ_eq {a : List UInt8} (h : a.length < 2 ^ 61) : ckQ a (cutR a).1 (cutR a).2.1 = some [.i (errQ a)] := by
 obtain ⟨s1, s2⟩ := cutR_sz h
 have s0 : szOK a = true := decide_eq_true (by omega)
 unfold ckQ
 rw [slash_cut, s0]
 unfold errQ
 generalize (cutR a).1 = n at *
 generalize (cutR a).2.1 = d at *
 generalize (cutR a).2.2 = w at *
 rw [s1, s2, brK_t, brK_t, brK_t, brK_t, brK_t]
 by_cases h1 : errI n = 3
 ·rw [if_pos (show errI n = 3 ∨ errI d = 3 from .inl h1), show (errI n == 3) = true by simpa using h1]; rfl
 ·rw [show (errI n == 3) = false by simpa using h1, brK_f]
  by_cases h2 : errI d = 3
  ·rw [if_pos (show errI n = 3 ∨ errI d = 3 from .inr h2), show (errI d == 3) = true by simpa using h2]; rfl
  ·rw [if_neg (show ¬ (errI n = 3 ∨ errI d = 3) by rw [not_or]; exact ⟨h1, h2⟩), show (errI d == 3) = false by simpa using h2, brK_f]
   by_cases h3 : errI n = 0
   ·rw [show (errI n != 0) = false by simpa using h3, brK_f]
    by_cases h4 : errI d = 0
    ·rw [if_neg (show ¬ (errI n ≠ 0 ∨ errI d ≠ 0) by rw [not_or]; exact ⟨by simpa using h3, by simpa using h4⟩), show (errI d != 0) = false by simpa using h4, brK_f]
     cases w with
     | false => rfl
     | true =>
      have z1 := zOKp_err h3
      have z2 := zOKp_err h4
      rw [brK_t, propB_true ⟨zOKp_ok z2, zOKp_ok (zOKp_err errI_1)⟩, propB_true ⟨z1, z2⟩, brK_t, show dvalZ [49] = 1 from rfl]
      have hg : ∀ x : Int, (itoa x == [49]) = decide (x = 1) := fun x => by
       by_cases hx : x = 1
       ·rw [decide_eq_true hx, hx, itoa_1]; rfl
       ·rw [decide_eq_false hx, beq_eq_false_iff_ne]
        intro e
        rw [← itoa_1] at e
        exact hx (itoa_inj e)
      rw [hg]
      by_cases h5 : 1 < dvalZ d
      ·have h6 : sgnZ (dvalZ d - 1) = 1 := by unfold sgnZ; rw [if_neg (by omega), if_neg (by omega)]
       rw [h6]
       by_cases h7 : Int.gcd (dvalZ n) (dvalZ d) = 1
       ·rw [decide_eq_true (show ((Int.gcd (dvalZ n) (dvalZ d) : Nat) : Int) = 1 by omega), if_neg (by simp [h5, h7])]; rfl
       ·rw [decide_eq_false (show ¬ ((Int.gcd (dvalZ n) (dvalZ d) : Nat) : Int) = 1 by omega), if_pos (by simp [h7])]; rfl
      ·have h6 : decide (sgnZ (dvalZ d - 1) ≤ 0) = true := by
        refine decide_eq_true ?_
        unfold sgnZ
        by_cases h8 : dvalZ d - 1 = 0
        ·rw [if_pos h8]; omega
        ·rw [if_neg h8, if_pos (by omega)]; omega
       rw [h6, if_pos (by simp [h5])]; rfl
    ·rw [if_pos (show errI n ≠ 0 ∨ errI d ≠ 0 from .inr h4), show (errI d != 0) = true by simpa using h4]; rfl
   ·rw [if_pos (show errI n ≠ 0 ∨ errI d ≠ 0 from .inl h3), show (errI n != 0) = true by simpa using h3]; rfl
noncomputable def T69 : List Lf → Tr (SP × List Lf)
 | [.s a] => .br (szH a) (.leaf (spI, [.i (errQ a)])) .fail
 | _ => .fail
noncomputable def pQ2 : Prims := pQ1.addh 69 (liftG 8 (funP spS1 8 [] T69))
theorem pQ2_ok {A : Amb} (hT : Tab A) (hG : prog.globals.size ≤ A.G) : PrimOK prog A pQ2 := by
 refine (pQ1_ok hT hG).addl gsz func69 (by kernel_rfl) (funP_ok hmix hnum rfl fun ls sq l h => ?_)
 unfold T69 at h
 split at h
 ·rename_i a
  obtain ⟨hc, hv⟩ := Tr.br1 h
  cases hv
  refine ⟨⟨.inr rfl, .inr rfl, .inr rfl, .inr rfl, .inr rfl, .inr rfl, .inr rfl, .inr rfl, trivial⟩, rfl, rfl, pQ1, 60, pQ1_ok hT hG, (run69 a).trans ?_⟩
  rw [szH_sz hc, brK_t]
  exact ckQ_eq (of_decide_eq_true hc)
 ·cases h
theorem run70 (a : List UInt8) : (runK prog pQ2 60).call 70 (spS1.rho [.s a]) (spS1.heap [.s a]) (finP spI 8 []) = brK (szOK a) (brK (propB (zOK' (cutR a).1 ∧ zOK' [48])) (some [.i (sgnZ (dvalZ (cutR a).1 - dvalZ [48]))]) none) none := by kernel_rfl
noncomputable def T70 : List Lf → Tr (SP × List Lf)
 | [.s a] => .br (propB (szOK a = true ∧ zOK' (cutR a).1)) (.leaf (spI, [.i (sgnZ (dvalZ (cutR a).1))])) .fail
 | _ => .fail
theorem errI_00 : errI [48] = 0 := by have := errI_0; rwa [itoa0] at this
noncomputable def pQ3 : Prims := pQ2.addh 70 (liftG 8 (funP spS1 8 [] T70))
theorem pQ3_ok {A : Amb} (hT : Tab A) (hG : prog.globals.size ≤ A.G) : PrimOK prog A pQ3 := by
 refine (pQ2_ok hT hG).addl gsz func70 (by kernel_rfl) (funP_ok hmix hnum rfl fun ls sq l h => ?_)
 unfold T70 at h
 split at h
 ·rename_i a
  obtain ⟨hc, hv⟩ := Tr.br1 h
  cases hv
  obtain ⟨h1, h2⟩ := propB_eq hc
  refine ⟨⟨.inr rfl, .inr rfl, .inr rfl, .inr rfl, .inr rfl, .inr rfl, .inr rfl, .inr rfl, trivial⟩, rfl, rfl, pQ2, 60, pQ2_ok hT hG, (run70 a).trans ?_⟩
  rw [h1, brK_t, propB_true ⟨h2, zOKp_ok (zOKp_err errI_00)⟩, brK_t, show dvalZ [48] = 0 from rfl, Int.sub_zero]
 ·cases h
noncomputable abbrev joinQ (n d : List UInt8) : Option (List Lf) :=
 brK (d == [49]) (some [.s n]) (brK (decide (n.length + 1 < 4611686018427387904)) (brK (decide ((n ++ [47]).length + d.length < 4611686018427387904)) (some [.s (n ++ [47] ++ d)]) none) none)
noncomputable abbrev quoQ (a b g : List UInt8) : Option (List Lf) :=
 brK (propB (zOKp a ∧ zOKp g ∧ ¬ dvalZ g = 0)) (brK (propB (zOKp b ∧ zOKp g ∧ ¬ dvalZ g = 0)) (joinQ (itoa ((dvalZ a).fdiv (dvalZ g))) (itoa ((dvalZ b).fdiv (dvalZ g)))) none) none
noncomputable abbrev lowQ (a b g : List UInt8) : Option (List Lf) :=
 brK (propB (isZ b)) (brK (decide (dvalZ b < 0)) (brK (propB (zOK g)) (quoQ a b (itoa (-dvalZ g))) none) (quoQ a b g)) none
theorem run102 (a b : List UInt8) : (runK prog pQ3 60).call 102 (spSS.rho [.s a, .s b]) (spSS.heap [.s a, .s b]) (finP spS1 8 []) =
  brK (propB (zOKp a ∧ zOKp b)) (lowQ a b (itoa (Int.gcd (dvalZ a) (dvalZ b) : Nat))) none := by kernel_rfl
theorem fdiv_abs {A G : Int} (hd : G ∣ A) (h0 : G ≠ 0) : (A.fdiv G).natAbs ≤ A.natAbs := by
 obtain ⟨q, rfl⟩ := hd
 rw [Int.mul_fdiv_cancel_left _ h0, Int.natAbs_mul]
 have : 1 ≤ G.natAbs := by omega
 exact Nat.le_mul_of_pos_left _ this
theorem itoa_mono {A B : Int} (h : A.natAbs ≤ B.natAbs) : (itoa A).length ≤ (itoa B).length + 1 := by
 have h1 := itoa_len A
 have h2 := dec_len_mono h
 have h3 : (decDigits B.natAbs).length ≤ (itoa B).length := by
  have := itoa_abs B
  by_cases hb : B < 0
  ·rw [if_pos hb] at this
   rw [← this, List.length_drop]; omega
  ·rw [if_neg hb] at this
   rw [this]; exact Nat.le_refl _
 omega
theorem quoQ_eq {a b : List UInt8} {G : Int} (ha : zOKp a) (hb : zOKp b) (h0 : G ≠ 0) (h1 : G ∣ dvalZ a) (h2 : G ∣ dvalZ b) (hg : zOKp (itoa G)) : quoQ a b (itoa G) = some [.s (ratT ((dvalZ a).fdiv G) ((dvalZ b).fdiv G))] := by
 have l1 := itoa_mono (fdiv_abs h1 h0)
 have l2 := itoa_mono (fdiv_abs h2 h0)
 have e1 : itoa (dvalZ a) = a := ha.1.symm
 have e2 : itoa (dvalZ b) = b := hb.1.symm
 rw [e1] at l1
 rw [e2] at l2
 have la := ha.2
 have lb := hb.2
 unfold quoQ joinQ ratT
 rw [dvalZ_itoa, propB_true ⟨ha, hg, h0⟩, propB_true ⟨hb, hg, h0⟩, brK_t, brK_t]
 generalize itoa ((dvalZ a).fdiv G) = n at *
 generalize itoa ((dvalZ b).fdiv G) = d at *
 cases d == [49] with
 | true => rfl
 | false =>
  have e3 : (n ++ [47]).length + d.length < 4611686018427387904 := by rw [List.length_append]; simp only [List.length_cons, List.length_nil]; omega
  rw [decide_eq_true (show n.length + 1 < 4611686018427387904 by omega), decide_eq_true e3]
  rfl
theorem lowQ_eq {a b : List UInt8} (ha : zOKp a) (hb : zOKp b) (h0 : dvalZ b ≠ 0) : lowQ a b (itoa (Int.gcd (dvalZ a) (dvalZ b) : Nat)) = some [.s (lowT (dvalZ a) (dvalZ b))] := by
 have hn := gcd_ne (A := dvalZ a) h0
 have hd1 : ((Int.gcd (dvalZ a) (dvalZ b) : Nat) : Int) ∣ dvalZ a := Int.gcd_dvd_left ..
 have hd2 : ((Int.gcd (dvalZ a) (dvalZ b) : Nat) : Int) ∣ dvalZ b := Int.gcd_dvd_right ..
 have hle : Int.gcd (dvalZ a) (dvalZ b) ≤ (dvalZ b).natAbs := by
  have := Int.natAbs_dvd_natAbs.2 hd2
  rw [Int.natAbs_natCast] at this
  exact Nat.le_of_dvd (by omega) this
 have e2 : itoa (dvalZ b) = b := hb.1.symm
 have lb := hb.2
 have lg : (itoa ((Int.gcd (dvalZ a) (dvalZ b) : Nat) : Int)).length ≤ b.length := by
  have h1 := dec_len_mono hle
  rw [itoaN]
  have h3 := isZ_abs hb.1
  have h4 := (absT_len1 b).1
  rw [h3, itoaN] at h4
  omega
 unfold lowQ lowT sgG
 rw [propB_true hb.1, brK_t, dvalZ_itoa]
 by_cases h : dvalZ b < 0
 ·rw [decide_eq_true h, brK_t, if_pos h, propB_true ⟨isZ_itoa _, by omega⟩, brK_t]
  refine quoQ_eq ha hb (by omega) (Int.neg_dvd.2 hd1) (Int.neg_dvd.2 hd2) ⟨isZ_itoa _, ?_⟩
  have hl : (itoa (-((Int.gcd (dvalZ a) (dvalZ b) : Nat) : Int))).length = (decDigits (Int.gcd (dvalZ a) (dvalZ b))).length + 1 := by
   unfold itoa
   rw [if_pos (by omega), List.length_cons, Int.natAbs_neg, Int.natAbs_natCast]
  rw [itoaN] at lg
  have hb1 : b.length = (decDigits (dvalZ b).natAbs).length + 1 := by
   conv => lhs; rw [← e2]
   unfold itoa
   rw [if_pos h, List.length_cons]
  have := dec_len_mono hle
  omega
 ·rw [decide_eq_false h, brK_f, if_neg h]
  exact quoQ_eq ha hb hn hd1 hd2 ⟨isZ_itoa _, by omega⟩
noncomputable def T102 : List Lf → Tr (SP × List Lf)
 | [.s a, .s b] => .br (propB (zOKp a ∧ zOKp b ∧ dvalZ b ≠ 0)) (.leaf (spS1, [.s (lowT (dvalZ a) (dvalZ b))])) .fail
 | _ => .fail
noncomputable def pQ4 : Prims := pQ3.addh 102 (liftG 8 (funP spSS 8 [] T102))
theorem pQ4_ok {A : Amb} (hT : Tab A) (hG : prog.globals.size ≤ A.G) : PrimOK prog A pQ4 := by
 refine (pQ3_ok hT hG).addl gsz func102 (by kernel_rfl) (funP_ok hmix hnum rfl fun ls sq l h => ?_)
 unfold T102 at h
 split at h
 ·rename_i a b
  obtain ⟨hc, hv⟩ := Tr.br1 h
  cases hv
  obtain ⟨ha, hb, h0⟩ := propB_eq hc
  refine ⟨⟨.inr rfl, .inr rfl, .inr rfl, .inr rfl, .inr rfl, .inr rfl, .inr rfl, .inr rfl, trivial⟩, rfl, rfl, pQ3, 60, pQ3_ok hT hG, (run102 a b).trans ?_⟩
  rw [propB_true ⟨ha, hb⟩, brK_t]
  exact lowQ_eq ha hb h0
 ·cases h
def shortR (a : List UInt8) : Bool := decide ((cutR a).1.length ≤ 30) && decide ((cutR a).2.1.length ≤ 30)
theorem run26 (a : List UInt8) : (runK prog pQ4 60).call 26 (spS1.rho [.s a]) (spS1.heap [.s a]) (finP ⟨[.bool], dd8⟩ 8 []) =
  brK (szOK a) (brK (decide (((cutR a).1.length : Int) ≤ 30)) (some [.b (decide (((cutR a).2.1.length : Int) ≤ 30))]) (some [.b false])) none := by kernel_rfl
noncomputable def T26 : List Lf → Tr (SP × List Lf)
 | [.s a] => .br (szOK a) (.leaf (⟨[.bool], dd8⟩, [.b (shortR a)])) .fail
 | _ => .fail
noncomputable def pQ5 : Prims := pQ4.addh 26 (liftG 8 (funP spS1 8 [] T26))
theorem pQ5_ok {A : Amb} (hT : Tab A) (hG : prog.globals.size ≤ A.G) : PrimOK prog A pQ5 := by
 refine (pQ4_ok hT hG).addl gsz func26 (by kernel_rfl) (funP_ok hmix hnum rfl fun ls sq l h => ?_)
 unfold T26 at h
 split at h
 ·rename_i a
  obtain ⟨hc, hv⟩ := Tr.br1 h
  cases hv
  refine ⟨⟨.inr rfl, .inr rfl, .inr rfl, .inr rfl, .inr rfl, .inr rfl, .inr rfl, .inr rfl, trivial⟩, rfl, rfl, pQ4, 60, pQ4_ok hT hG, (run26 a).trans ?_⟩
  rw [hc, brK_t]
  unfold shortR
  by_cases h1 : (cutR a).1.length ≤ 30
  ·rw [decide_eq_true (show ((cutR a).1.length : Int) ≤ 30 by omega), decide_eq_true h1]
   by_cases h2 : (cutR a).2.1.length ≤ 30
   ·rw [decide_eq_true (show ((cutR a).2.1.length : Int) ≤ 30 by omega), decide_eq_true h2]; rfl
   ·rw [decide_eq_false (show ¬ ((cutR a).2.1.length : Int) ≤ 30 by omega), decide_eq_false h2]; rfl
  ·rw [decide_eq_false (show ¬ ((cutR a).1.length : Int) ≤ 30 by omega), decide_eq_false h1]; rfl
 ·cases h
end Go.Proofs.Tryz
namespace Go.Proofs.Tryz
open Go.Ad
open Go.Lib (decDigits itoa nDigits)
theorem errQ_ok {a : List UInt8} (h : errQ a = 0) : errI (cutR a).1 = 0 ∧ errI (cutR a).2.1 = 0 ∧ 1 ≤ dvalZ (cutR a).2.1 ∧ Int.gcd (dvalZ (cutR a).1) (dvalZ (cutR a).2.1) = 1 := by
 unfold errQ at h
 split at h
 ·cases h
 ·split at h
  ·cases h
  ·rename_i h1 h2
   split at h
   ·cases h
   ·rename_i h3
    rw [not_or] at h1 h2
    have e1 : errI (cutR a).1 = 0 := Decidable.not_not.1 h2.1
    have e2 : errI (cutR a).2.1 = 0 := Decidable.not_not.1 h2.2
    refine ⟨e1, e2, ?_⟩
    cases hw : (cutR a).2.2 with
    | true =>
     have h4 : 1 < dvalZ (cutR a).2.1 ∧ Int.gcd (dvalZ (cutR a).1) (dvalZ (cutR a).2.1) = 1 := by
      by_cases hc : 1 < dvalZ (cutR a).2.1 ∧ Int.gcd (dvalZ (cutR a).1) (dvalZ (cutR a).2.1) = 1
      ·exact hc
      ·exact (h3 ⟨hw, hc⟩).elim
     exact ⟨by omega, h4.2⟩
    | false =>
     have : (cutR a).2.1 = [49] := by
      unfold cutR at hw ⊢
      cases hc : cutAt 47 a with
      | none => rfl
      | some p => rw [hc] at hw; cases hw
     rw [this, show dvalZ [49] = 1 from rfl]
     exact ⟨by omega, by rw [Int.gcd_one]⟩
theorem no_slash (n : Int) : (47 : UInt8) ∉ itoa n := fun hm => by
 unfold itoa at hm
 have hd : ∀ U : Nat, (47 : UInt8) ∉ decDigits U := fun U hm => by
  have := dec_digit U 47 hm
  exact absurd this.1 (by decide)
 split at hm
 ·cases hm with
  | tail _ hm => exact hd _ hm
 ·exact hd _ hm
theorem cutR_ratT (N D : Int) : (cutR (ratT N D)).1 = itoa N ∧ (cutR (ratT N D)).2.1 = itoa D := by
 unfold ratT
 cases h : itoa D == [49] with
 | true =>
  have h : itoa D = [49] := by simpa using h
  unfold cutR
  rw [cond_true, cutAt_none (no_slash N), h]
  exact ⟨rfl, rfl⟩
 | false =>
  unfold cutR
  rw [cond_false, List.append_assoc, show itoa N ++ ([47] ++ itoa D) = itoa N ++ 47 :: itoa D from rfl, cutAt_mk (no_slash N)]
  exact ⟨rfl, rfl⟩
theorem lowT_1 {N D : Int} (h : Int.gcd N D = 1) (h0 : 0 ≤ D) : lowT N D = ratT N D := by
 unfold lowT sgG
 rw [if_neg (by omega), h]
 show ratT (N.fdiv 1) (D.fdiv 1) = _
 rw [Int.fdiv_one, Int.fdiv_one]
noncomputable abbrev turnQ (n q : List UInt8) : Option (List Lf) :=
 brK (propB (zOK [48] ∧ zOK q)) (brK (propB (zOK n ∧ zOK [49])) (brK (propB (zOK [49] ∧ zOK q)) (brK (propB (zOK [48] ∧ zOK n)) (brK (propB (zOK [49] ∧ zOK n))
  (brK (propB (zOK' (itoa (dvalZ [48] * dvalZ q)) ∧ zOK' (itoa (dvalZ n * dvalZ [49]))))
   (brK (propB (zOKp (itoa (dvalZ (itoa (dvalZ [48] * dvalZ q)) - dvalZ (itoa (dvalZ n * dvalZ [49])))) ∧ zOKp (itoa (dvalZ [49] * dvalZ q)) ∧ ¬ dvalZ (itoa (dvalZ [49] * dvalZ q)) = 0))
    (some [.s (lowT (dvalZ (itoa (dvalZ (itoa (dvalZ [48] * dvalZ q)) - dvalZ (itoa (dvalZ n * dvalZ [49]))))) (dvalZ (itoa (dvalZ [49] * dvalZ q))))]) none) none) none) none) none) none) none
theorem run71 (a : List UInt8) : (runK prog pQ5 60).call 71 (spS1.rho [.s a]) (spS1.heap [.s a]) (finP spS1 8 []) = brK (szOK a) (turnQ (cutR a).1 (cutR a).2.1) none := by kernel_rfl
theorem zOK_err {a : List UInt8} (h : errI a = 0) : zOK a := zOK'_ok (zOKp_ok (zOKp_err h))
theorem errI_neg {a : List UInt8} (h : errI a = 0) : errI (itoa (-dvalZ a)) = 0 := by
 have e := itoa_of h
 refine errI_le (A := dvalZ a) (by rw [← e]; exact h) (by rw [Int.natAbs_neg]; exact Nat.le_refl _)
theorem turnQ_eq {n q : List UInt8} (hn : errI n = 0) (hq : errI q = 0) (h0 : dvalZ q ≠ 0) : turnQ n q = some [.s (lowT (-dvalZ n) (dvalZ q))] := by
 have e1 : errI [48] = 0 := errI_00
 unfold turnQ
 rw [show dvalZ [48] = 0 from rfl, show dvalZ [49] = 1 from rfl, Int.zero_mul, Int.mul_one, Int.one_mul, dvalZ_itoa, dvalZ_itoa, dvalZ_itoa, dvalZ_itoa, Int.zero_sub, itoa0, ← itoa_of hn, ← itoa_of hq,
  propB_true ⟨zOK_err e1, zOK_err hq⟩, propB_true ⟨zOK_err hn, zOK_err errI_1⟩, propB_true ⟨zOK_err errI_1, zOK_err hq⟩, propB_true ⟨zOK_err e1, zOK_err hn⟩, propB_true ⟨zOK_err errI_1, zOK_err hn⟩,
  propB_true ⟨zOKp_ok (zOKp_err e1), zOKp_ok (zOKp_err hn)⟩, propB_true ⟨zOKp_err (errI_neg hn), zOKp_err hq, h0⟩]
 rfl
noncomputable def T71 : List Lf → Tr (SP × List Lf)
 | [.s a] => .br (propB (errQ a = 0 ∧ szH a = true)) (.leaf (spS1, [.s (ratT (-dvalZ (cutR a).1) (dvalZ (cutR a).2.1))])) .fail
 | _ => .fail
noncomputable def pQ6 : Prims := pQ5.addh 71 (liftG 8 (funP spS1 8 [] T71))
theorem pQ6_ok {A : Amb} (hT : Tab A) (hG : prog.globals.size ≤ A.G) : PrimOK prog A pQ6 := by
 refine (pQ5_ok hT hG).addl gsz func71 (by kernel_rfl) (funP_ok hmix hnum rfl fun ls sq l h => ?_)
 unfold T71 at h
 split at h
 ·rename_i a
  obtain ⟨hc, hv⟩ := Tr.br1 h
  cases hv
  obtain ⟨h1, h2⟩ := propB_eq hc
  obtain ⟨e1, e2, e3, e4⟩ := errQ_ok h1
  refine ⟨⟨.inr rfl, .inr rfl, .inr rfl, .inr rfl, .inr rfl, .inr rfl, .inr rfl, .inr rfl, trivial⟩, rfl, rfl, pQ5, 60, pQ5_ok hT hG, (run71 a).trans ?_⟩
  rw [szH_sz h2, brK_t, turnQ_eq e1 e2 (by omega), lowT_1 (by rw [Int.neg_gcd]; exact e4) (by omega)]
 ·cases h
end Go.Proofs.Tryz
namespace Go.Proofs.Tryz
open Go.Ad
open Go.Lib (decDigits itoa nDigits decFrom digitVal)
noncomputable def code62 : Code := f62.body.getD .skip
noncomputable def bodyWo : Code := unLoop (findB 0 code62)
def spWo : SP := ⟨[.str] ++ dr 2 ++ [.str, .str, .bool, .int .i64] ++ dr 25, dd8⟩
def lfWo (s w p : List UInt8) (b : Bool) (i : Int) : List Lf := [.s s, .s w, .s p, .b b, .i i]
def dgB (c : Int) : Int := IntKind.i64.wrap (IntKind.u8.wrap (c - 48))
theorem roundWo (s w p : List UInt8) (b : Bool) (i : Int) : execK prog (runK prog pQ6 60) noBps bodyWo (spWo.rho (lfWo s w p b i)) (spWo.heap (lfWo s w p b i)) (nrmP (fun _ => spWo) 8 []) =
  brK (decide (i < (s.length : Int))) (brK (decide (0 ≤ i ∧ i < (s.length : Int))) (brK (((s.getD i.toNat 0).toNat : Int) == 46) (some (.normal, lfWo s w p true (W (i + 1))))
   (brK (propB (zOK w ∧ zOK [49, 48])) (brK (decide (0 ≤ i ∧ i < (s.length : Int))) (brK (propB (IntKind.i64 = .i64 ∧ -(2 ^ 63) < dgB ((s.getD i.toNat 0).toNat : Int) ∧ dgB ((s.getD i.toNat 0).toNat : Int) < 2 ^ 63))
    (brK (propB (zOK (itoa (dvalZ w * dvalZ [49, 48])) ∧ zOK (itoa (dgB ((s.getD i.toNat 0).toNat : Int)))))
     (brK b (brK (propB (zOK p ∧ zOK [49, 48])) (some (.normal, lfWo s (itoa (dvalZ (itoa (dvalZ w * dvalZ [49, 48])) + dvalZ (itoa (dgB ((s.getD i.toNat 0).toNat : Int))))) (itoa (dvalZ p * dvalZ [49, 48])) b (W (i + 1)))) none)
      (some (.normal, lfWo s (itoa (dvalZ (itoa (dvalZ w * dvalZ [49, 48])) + dvalZ (itoa (dgB ((s.getD i.toNat 0).toNat : Int))))) p b (W (i + 1))))) none) none) none) none)) none)
   (some (.exit 0, lfWo s w p b i)) := by kernel_rfl
theorem dgB_eq {c : Nat} (h1 : 48 ≤ c) (h2 : c ≤ 57) : dgB (c : Int) = ((c - 48 : Nat) : Int) := by
 obtain ⟨k, rfl⟩ : ∃ k, c = 48 + k := ⟨c - 48, by omega⟩
 have hk : k ≤ 9 := by omega
 have : ∀ k : Fin 10, dgB ((48 + k.val : Nat) : Int) = ((48 + k.val - 48 : Nat) : Int) := by decide
 exact this ⟨k, by omega⟩
def stepW (st : Nat × Nat × Bool) (c : UInt8) : Nat × Nat × Bool := if c = 46 then (st.1, st.2.1, true) else (st.1 * 10 + (c.toNat - 48), bif st.2.2 then st.2.1 * 10 else st.2.1, st.2.2)
def woS (s : List UInt8) : Nat × Nat × Bool := s.foldl stepW (0, 1, false)
theorem wo_digits : ∀ (l : List UInt8) (w p : Nat) (h : Bool), l.all isDg = true → l.foldl stepW (w, p, h) = (digW w l, bif h then p * 10 ^ l.length else p, h)
 | [], w, p, h, _ => by cases h <;> simp [digW]
 | c :: r, w, p, h, hl => by
  rw [List.all_cons, Bool.and_eq_true] at hl
  have hc : c ≠ 46 := fun e => by rw [e] at hl; exact absurd hl.1 (by decide)
  rw [List.foldl_cons]
  show r.foldl stepW (if c = 46 then _ else _) = _
  rw [if_neg hc, wo_digits r _ _ _ hl.2]
  show (digW (w * 10 + (c.toNat - 48)) r, _, h) = (digW (w * 10 + (c.toNat - 48)) r, _, h)
  cases h with
  | false => rfl
  | true => simp only [cond_true, List.length_cons, Nat.pow_succ]; rw [Nat.mul_assoc, Nat.mul_comm 10]
theorem wo_num {s f b : List UInt8} (h : NumS s f b) : (woS s).1 = digW 0 (f ++ b) ∧ (woS s).2.1 = 10 ^ b.length := by
 unfold woS
 rcases h.shape with ⟨e1, e2⟩ | ⟨e1, _⟩
 ·rw [e2, e1, wo_digits f 0 1 false h.df, List.append_nil]
  exact ⟨rfl, rfl⟩
 ·rw [e1, List.foldl_append, wo_digits f 0 1 false h.df, List.foldl_cons]
  show (b.foldl stepW (digW 0 f, 1, true)).1 = _ ∧ (b.foldl stepW (digW 0 f, 1, true)).2.1 = _
  rw [wo_digits b _ _ _ h.db, digW_append]
  exact ⟨rfl, by simp⟩
theorem wo_lt : ∀ (l : List UInt8) (st : Nat × Nat × Bool) (k : Nat), (∀ c ∈ l, c = 46 ∨ isDg c = true) → st.1 < 10 ^ k → st.2.1 ≤ 10 ^ k → (l.foldl stepW st).1 < 10 ^ (k + l.length) ∧ (l.foldl stepW st).2.1 ≤ 10 ^ (k + l.length)
 | [], _, _, _, h1, h2 => ⟨h1, h2⟩
 | c :: r, st, k, hl, h1, h2 => by
  rw [List.foldl_cons, List.length_cons, show k + (r.length + 1) = k + 1 + r.length by omega]
  have hp : 10 ^ (k + 1) = 10 ^ k * 10 := Nat.pow_succ ..
  refine wo_lt r _ (k + 1) (fun c hc => hl c (.tail _ hc)) ?_ ?_
  ·unfold stepW
   by_cases hc : c = 46
   ·rw [if_pos hc]; simp only; omega
   ·rw [if_neg hc]
    have hd : isDg c = true := (hl c (.head _)).resolve_left hc
    have h3 : 48 ≤ c.toNat ∧ c.toNat ≤ 57 := by simpa [isDg] using hd
    simp only; omega
  ·unfold stepW
   by_cases hc : c = 46
   ·rw [if_pos hc]; simp only; omega
   ·rw [if_neg hc]
    simp only
    cases st.2.2 <;> simp only [cond_true, cond_false] <;> omega
theorem num_bytes {s f b : List UInt8} (h : NumS s f b) : ∀ c ∈ s, c = 46 ∨ isDg c = true := fun c hc => by
 rcases h.shape with ⟨e1, _⟩ | ⟨e1, _⟩
 ·rw [e1] at hc
  exact .inr (List.all_eq_true.1 h.df _ hc)
 ·rw [e1] at hc
  rcases List.mem_append.1 hc with hc | hc
  ·exact .inr (List.all_eq_true.1 h.df _ hc)
  ·cases hc with
   | head => exact .inl rfl
   | tail _ hc => exact .inr (List.all_eq_true.1 h.db _ hc)
theorem zOK_small {n k : Nat} (h : n < 10 ^ k) (h1 : 1 ≤ k) (h2 : k ≤ 1000) : zOK (itoa (n : Int)) := by
 refine ⟨isZ_itoa _, ?_⟩
 have := itoaN_len h h1
 have : (1000 : Nat) < 2 ^ 26 := by decide
 omega
theorem itoa_10 : itoa 10 = [49, 48] := ten_itoa 1
theorem dval_10 : dvalZ [49, 48] = 10 := by rw [← itoa_10, dvalZ_itoa]
noncomputable def hookWo : Blk := hookP spWo 8 [] fun
 | [.s s, .s w, .s p, .b b, .i i] => .br (propB (w = itoa ((0 : Nat) : Int) ∧ p = itoa ((1 : Nat) : Int) ∧ b = false ∧ i = 0 ∧ errN s = 0)) (.leaf (.normal, spWo, lfWo s (itoa ((woS s).1 : Nat)) (itoa ((woS s).2.1 : Nat)) (woS s).2.2 s.length)) .fail
 | _ => .fail
noncomputable def pV0b : Prims := pQ6.addb 62 0 hookWo
section
variable {A : Amb} (hT : Tab A) (hG : prog.globals.size ≤ A.G)
include hT hG
theorem pV0b_ok : PrimOK prog A pV0b := by
 have hp := pQ6_ok hT hG
 refine PrimOK.addbP hp func62 (show f62.body = some code62 by kernel_rfl) (body := .loop bodyWo) (by kernel_rfl) (by kernel_rfl) fun ls e sq l h => ?_
 split at h
 ·rename_i s w p b i
  obtain ⟨hc, hv⟩ := Tr.br1 h
  cases hv
  obtain ⟨rfl, rfl, rfl, rfl, hs⟩ := propB_eq hc
  obtain ⟨f, b, hn⟩ := num_shape hs
  have hlen := hn.len
  have hbytes := num_bytes hn
  refine ⟨⟨.inr rfl, .inr rfl, .inr rfl, .inr rfl, .inr rfl, .inr rfl, .inr rfl, .inr rfl, trivial⟩, fun Bb hB => SEB.block_exit (id := 0) ?_⟩
  refine SEB.loop_nat (P := prog) (A := A) (B0 := Bb) (c := bodyWo) (I := fun i => ⟨spWo.rho (lfWo s (itoa ((woS (s.take i)).1 : Nat)) (itoa ((woS (s.take i)).2.1 : Nat)) (woS (s.take i)).2.2 i), spWo.heap (lfWo s (itoa ((woS (s.take i)).1 : Nat)) (itoa ((woS (s.take i)).2.1 : Nat)) (woS (s.take i)).2.2 i), []⟩) (N := s.length) ?_ ?_ (by simp) (i := 0) (Nat.zero_le _)
   (s' := ⟨spWo.rho (lfWo s (itoa ((woS s).1 : Nat)) (itoa ((woS s).2.1 : Nat)) (woS s).2.2 s.length), spWo.heap (lfWo s (itoa ((woS s).1 : Nat)) (itoa ((woS s).2.1 : Nat)) (woS s).2.2 s.length), []⟩) (e := .exit 0)
  ·intro i hi
   have hr := roundWo s (itoa ((woS (s.take i)).1 : Nat)) (itoa ((woS (s.take i)).2.1 : Nat)) (woS (s.take i)).2.2 i
   obtain ⟨b1, b2⟩ := wo_lt (s.take i) (0, 1, false) 1 (fun c hc => hbytes c (List.mem_of_mem_take hc)) (by decide) (by decide)
   have hti : (s.take i).length ≤ 24 := by rw [List.length_take]; omega
   have hp1 : 10 ^ (1 + (s.take i).length) ≤ 10 ^ 25 := Nat.pow_le_pow_right (by decide) (by omega)
   have hstep : woS (s.take (i + 1)) = stepW (woS (s.take i)) (s.getD i 0) := by
    unfold woS
    rw [List.take_add_one, List.getD_eq_getElem?_getD, List.getElem?_eq_getElem hi, List.foldl_append]
    rfl
   have b1 : (woS (s.take i)).1 < 10 ^ 25 := by show ((s.take i).foldl stepW (0, 1, false)).1 < _; omega
   have b2 : (woS (s.take i)).2.1 ≤ 10 ^ 25 := by show ((s.take i).foldl stepW (0, 1, false)).2.1 ≤ _; omega
   have hmem : s.getD i 0 ∈ s := by rw [List.getD_eq_getElem?_getD, List.getElem?_eq_getElem hi]; exact List.getElem_mem hi
   rw [hstep]
   generalize woS (s.take i) = st at *
   obtain ⟨w, p, bb⟩ := st
   have hch := hbytes _ hmem
   simp only at b1 b2 hr
   rw [decide_eq_true (show (i : Int) < (s.length : Int) by omega), decide_eq_true (show 0 ≤ (i : Int) ∧ (i : Int) < (s.length : Int) by omega), Int.toNat_natCast, W_id (by omega) (by omega), brK_t, brK_t] at hr
   unfold stepW
   generalize s.getD i 0 = c at *
   by_cases hc : c = 46
   ·subst hc
    rw [if_pos rfl]
    rw [show (((46 : UInt8).toNat : Int) == 46) = true from rfl, brK_t] at hr
    exact SEB.of_KP (A := A) (B0 := Bb) (e := .normal) hmix hnum hp (.none _) hB hr rfl
   ·rw [if_neg hc]
    have hd : isDg c = true := hch.resolve_left hc
    have h3 : 48 ≤ c.toNat ∧ c.toNat ≤ 57 := by simpa [isDg] using hd
    have hne : ((c.toNat : Int) == 46) = false := by rw [beq_eq_false_iff_ne]; omega
    have e1 : (w : Int) * 10 = ((w * 10 : Nat) : Int) := by omega
    have e2 : (p : Int) * 10 = ((p * 10 : Nat) : Int) := by omega
    have e3 : ((w * 10 : Nat) : Int) + ((c.toNat - 48 : Nat) : Int) = ((w * 10 + (c.toNat - 48) : Nat) : Int) := by omega
    have z10 : zOK [49, 48] := by rw [← itoa_10]; exact zOK_small (n := 10) (k := 2) (by decide) (by decide) (by decide)
    have hdg : dgB (c.toNat : Int) = ((c.toNat - 48 : Nat) : Int) := dgB_eq h3.1 h3.2
    rw [hne, brK_f, hdg, dval_10, dvalZ_itoa, dvalZ_itoa, e1, dvalZ_itoa, e3, dvalZ_itoa, e2, propB_true ⟨zOK_small (k := 26) (by omega) (by decide) (by decide), z10⟩, brK_t, brK_t, propB_true ⟨by trivial, by omega, by omega⟩, brK_t,
     propB_true ⟨zOK_small (n := w * 10) (k := 27) (by omega) (by decide) (by decide), zOK_small (n := c.toNat - 48) (k := 2) (by omega) (by decide) (by decide)⟩, brK_t, propB_true ⟨zOK_small (n := p) (k := 26) (by omega) (by decide) (by decide), z10⟩, brK_t] at hr
    cases bb with
    | true => exact SEB.of_KP (A := A) (B0 := Bb) (e := .normal) hmix hnum hp (.none _) hB hr rfl
    | false => exact SEB.of_KP (A := A) (B0 := Bb) (e := .normal) hmix hnum hp (.none _) hB hr rfl
  ·have hr := roundWo s (itoa ((woS s).1 : Nat)) (itoa ((woS s).2.1 : Nat)) (woS s).2.2 s.length
   rw [decide_eq_false (show ¬ (s.length : Int) < (s.length : Int) by omega)] at hr
   simp only [List.take_length]
   exact SEB.of_KP (A := A) (B0 := Bb) (e := .exit 0) hmix hnum hp (.none _) hB hr rfl
 ·cases h
end
theorem run62 (s : List UInt8) : (runK prog pV0b 60).call 62 (spS1.rho [.s s]) (spS1.heap [.s s]) (finP spS1 8 []) =
  brK (propB (([48] : List UInt8) = itoa ((0 : Nat) : Int) ∧ ([49] : List UInt8) = itoa ((1 : Nat) : Int) ∧ false = false ∧ (0 : Int) = 0 ∧ errN s = 0))
   (brK (propB (zOKp (itoa ((woS s).1 : Nat)) ∧ zOKp (itoa ((woS s).2.1 : Nat)) ∧ ¬ dvalZ (itoa ((woS s).2.1 : Nat)) = 0)) (some [.s (lowT (dvalZ (itoa ((woS s).1 : Nat))) (dvalZ (itoa ((woS s).2.1 : Nat))))]) none) none := by kernel_rfl
noncomputable def T62 : List Lf → Tr (SP × List Lf)
 | [.s a] => .br (propB (errN a = 0)) (.leaf (spS1, [.s (valR a).1])) .fail
 | _ => .fail
noncomputable def pV0 : Prims := pQ6.addh 62 (liftG 8 (funP spS1 8 [] T62))
theorem zOKp_small {n k : Nat} (h : n < 10 ^ k) (h1 : 1 ≤ k) (h2 : k ≤ 1000) : zOKp (itoa (n : Int)) := by
 refine ⟨isZ_itoa _, ?_⟩
 have := itoaN_len h h1
 have : (1000 : Nat) < 2 ^ 24 := by decide
 omega
theorem pV0_ok {A : Amb} (hT : Tab A) (hG : prog.globals.size ≤ A.G) : PrimOK prog A pV0 := by
 refine (pQ6_ok hT hG).addl gsz func62 (by kernel_rfl) (funP_ok hmix hnum rfl fun ls sq l h => ?_)
 unfold T62 at h
 split at h
 ·rename_i s
  obtain ⟨hc, hv⟩ := Tr.br1 h
  cases hv
  have hs := propB_eq hc
  obtain ⟨f, b, hn⟩ := num_shape hs
  obtain ⟨h1, h2⟩ := wo_num hn
  obtain ⟨b1, b2⟩ := wo_lt s (0, 1, false) 1 (num_bytes hn) (by decide) (by decide)
  have hlen := hn.len
  have hp1 : 10 ^ (1 + s.length) ≤ 10 ^ 25 := Nat.pow_le_pow_right (by decide) (by omega)
  have b1 : (woS s).1 < 10 ^ 25 := by show (s.foldl stepW (0, 1, false)).1 < _; omega
  have b2 : (woS s).2.1 ≤ 10 ^ 25 := by show (s.foldl stepW (0, 1, false)).2.1 ≤ _; omega
  have b3 : 0 < (woS s).2.1 := by rw [h2]; exact Nat.pow_pos (by decide)
  refine ⟨⟨.inr rfl, .inr rfl, .inr rfl, .inr rfl, .inr rfl, .inr rfl, .inr rfl, .inr rfl, trivial⟩, rfl, rfl, pV0b, 60, pV0b_ok hT hG, (run62 s).trans ?_⟩
  rw [propB_true ⟨itoa0.symm, itoa_1.symm, rfl, rfl, hs⟩, brK_t, dvalZ_itoa, dvalZ_itoa, propB_true ⟨zOKp_small (k := 26) (by omega) (by decide) (by decide), zOKp_small (k := 26) (by omega) (by decide) (by decide), by omega⟩, brK_t]
  unfold valR
  rw [if_neg (by rw [hs]; simp), hn.cut.1, hn.cut.2, h1, h2]
  rfl
 ·cases h
end Go.Proofs.Tryz
namespace Go.Proofs.Tryz
open Go.Ad
open Go.Lib (decDigits itoa nDigits decFrom digitVal)
theorem run28 (a : List UInt8) : (runK prog pV0 60).call 28 (spS1.rho [.s a]) (spS1.heap [.s a]) (finQ spRI 8 []) =
  brK (szOK a) (brK (errN a != 0) (some [.s [], .i (errN a)]) (brK (propB (errN a = 0)) (some [.s (valR a).1, .i 0]) none)) none := by kernel_rfl
noncomputable def pV1 : Prims := pV0.addh 28 (liftG 8 (funQ spS1 8 [] T27))
theorem pV1_ok {A : Amb} (hT : Tab A) (hG : prog.globals.size ≤ A.G) : PrimOK prog A pV1 := by
 refine (pV0_ok hT hG).addl gsz func28 (by kernel_rfl) (funQ_ok hmix hnum rfl fun ls sq l h => ?_)
 unfold T27 at h
 split at h
 ·rename_i a
  obtain ⟨hc, hv⟩ := Tr.br1 h
  cases hv
  refine ⟨⟨.inr rfl, .inr rfl, .inr rfl, .inr rfl, .inr rfl, .inr rfl, .inr rfl, .inr rfl, trivial⟩, rfl, pV0, 60, _, pV0_ok hT hG, (run28 a).trans ?_, fun _ _ => .refl⟩
  rw [hc, brK_t]
  unfold valR
  by_cases h0 : errN a = 0
  ·rw [if_neg (by simpa using h0), show (errN a != 0) = false by simpa using h0, propB_true h0]; rfl
  ·rw [if_pos h0, show (errN a != 0) = true by simpa using h0]; rfl
 ·cases h
end Go.Proofs.Tryz
namespace Go.Proofs.Tryz
open Go.Ad
open Go.Lib (decDigits itoa nDigits decFrom digitVal)
noncomputable def pN : Prims := pV1.over pG0
theorem pN_ok {A : Amb} (hT : Tab A) (hG : prog.globals.size ≤ A.G) : PrimOK prog A pN := (pV1_ok hT hG).over (pG0_ok hT hG)
noncomputable def code64 : Code := f64.body.getD .skip
noncomputable def bodyFi : Code := unLoop (findB 2 code64)
def spFi (k : Int) (c : UInt8) : SP := ⟨[.str] ++ dr 4 ++ [.is (.str [c])] ++ dr 2 ++ [.is (.slice (some (8, 0)) 2 2), .is (.int .i64 2), .is (.int .i64 k)] ++ dr 26, dd8 ++ [.cells [.is (.str [50]), .is (.str [53])] 1 true 90]⟩
noncomputable abbrev rdFi (a p : List UInt8) : Option (AEx × List Lf) :=
 brK (propB (errI a = 0 ∧ errI p = 0 ∧ dvalZ p ≠ 0 ∧ errI (itoa ((dvalZ a).fmod (dvalZ p))) = 0)) (brK (!(itoa ((dvalZ a).fmod (dvalZ p)) == [48])) (some (.exit 2, [.s a]))
  (brK (propB (errI a = 0 ∧ errI p = 0 ∧ dvalZ p ≠ 0 ∧ errI (itoa ((dvalZ a).fdiv (dvalZ p))) = 0)) (some (.normal, [.s (itoa ((dvalZ a).fdiv (dvalZ p)))])) none)) none
theorem roundFi0 (a : List UInt8) : execK prog (runK prog pN 60) noBps bodyFi ((spFi 0 50).rho [.s a]) ((spFi 0 50).heap [.s a]) (nrmP (fun _ => spFi 0 50) 9 []) = rdFi a [50] := by kernel_rfl
theorem roundFi1 (a : List UInt8) : execK prog (runK prog pN 60) noBps bodyFi ((spFi 1 53).rho [.s a]) ((spFi 1 53).heap [.s a]) (nrmP (fun _ => spFi 1 53) 9 []) = rdFi a [53] := by kernel_rfl
theorem rdFi_eq {n q : Nat} {p : List UInt8} (hn : errI (itoa (n : Int)) = 0) (hp : p = itoa (q : Int)) (hq : errI p = 0) (h2 : 2 ≤ q) :
  rdFi (itoa (n : Int)) p = if n % q = 0 then some (.normal, [.s (itoa ((n / q : Nat) : Int))]) else some (.exit 2, [.s (itoa (n : Int))]) := by
 have hd : dvalZ p = (q : Int) := by rw [hp, dvalZ_itoa]
 have f1 : (n : Int).fmod (q : Int) = ((n % q : Nat) : Int) := by rw [Int.fmod_eq_emod_of_nonneg _ (by omega)]; rfl
 have f2 : (n : Int).fdiv (q : Int) = ((n / q : Nat) : Int) := by rw [Int.fdiv_eq_ediv_of_nonneg _ (by omega)]; rfl
 have l1 : n % q ≤ n := Nat.mod_le _ _
 have l2 : n / q ≤ n := Nat.div_le_self _ _
 unfold rdFi
 rw [dvalZ_itoa, hd, f1, f2, propB_true ⟨hn, hq, by omega, errI_le hn (by rw [Int.natAbs_natCast, Int.natAbs_natCast]; exact l1)⟩, propB_true ⟨hn, hq, by omega, errI_le hn (by rw [Int.natAbs_natCast, Int.natAbs_natCast]; exact l2)⟩, brK_t, itoa_is0]
 by_cases h : n % q = 0
 ·rw [if_pos h, decide_eq_true (show ((n % q : Nat) : Int) = 0 by omega)]; rfl
 ·rw [if_neg h, decide_eq_false (show ¬ ((n % q : Nat) : Int) = 0 by omega)]; rfl
noncomputable def TFi (k : Int) (c : UInt8) (q : Nat) : List Lf → Tr (AEx × SP × List Lf)
 | [.s a] => .br (propB (errI a = 0 ∧ 0 < dvalZ a)) (.leaf (.normal, spFi k c, [.s (itoa ((strip q (dvalZ a).toNat : Nat) : Int))])) .fail
 | _ => .fail
noncomputable def hookFi : Blk := fun ρ B => match ρ.getD 10 .bad with
 | .int _ 0 => hookP (spFi 0 50) 9 [] (TFi 0 50 2) ρ B
 | _ => hookP (spFi 1 53) 9 [] (TFi 1 53 5) ρ B
theorem loopFi {A : Amb} {k : Int} {c : UInt8} {q : Nat} {prims : Prims} (hp : PrimOK prog A prims) (h2 : 2 ≤ q) (hc : [c] = itoa (q : Int)) (he : errI [c] = 0)
  (hr : ∀ a : List UInt8, execK prog (runK prog prims 60) noBps bodyFi ((spFi k c).rho [.s a]) ((spFi k c).heap [.s a]) (nrmP (fun _ => spFi k c) 9 []) = rdFi a [c]) :
  ∀ ls e sq l, (TFi k c q ls).get = some (e, sq, l) → frP [] 0 ((spFi k c).heap ls) (sq.heap l) ∧ ∀ Bb : Heap, Bb.length = 9 → SEB prog A Bb (.block 2 (.loop bodyFi)) ⟨(spFi k c).rho ls, (spFi k c).heap ls, []⟩ e ⟨sq.rho l, sq.heap l, []⟩ := fun ls e sq l h => by
 unfold TFi at h
 split at h
 ·rename_i a
  obtain ⟨hcc, hv⟩ := Tr.br1 h
  cases hv
  obtain ⟨ha, h0⟩ := propB_eq hcc
  refine ⟨⟨.inr rfl, .inr rfl, .inr rfl, .inr rfl, .inr rfl, .inr rfl, .inr rfl, .inr rfl, .inr rfl, trivial⟩, fun Bb hB => SEB.block_exit (id := 2) ?_⟩
  have ea := itoa_of ha
  obtain ⟨n, hn⟩ : ∃ n : Nat, dvalZ a = n := ⟨(dvalZ a).toNat, by omega⟩
  rw [hn] at ea h0 ⊢
  subst ea
  rw [Int.toNat_natCast]
  refine SEB.while (fun n : Nat => 0 < n ∧ errI (itoa (n : Int)) = 0) (fun n => n) (fun n => ⟨(spFi k c).rho [.s (itoa (n : Int))], (spFi k c).heap [.s (itoa (n : Int))], []⟩)
   (fun n => (.exit 2, ⟨(spFi k c).rho [.s (itoa ((strip q n : Nat) : Int))], (spFi k c).heap [.s (itoa ((strip q n : Nat) : Int))], []⟩)) (fun n hn => ?_) n ⟨by omega, ha⟩
  obtain ⟨n0, n1⟩ := hn
  have hk := (hr (itoa (n : Int))).trans (rdFi_eq n1 hc he h2)
  by_cases hm : n % q = 0
  ·rw [if_pos hm] at hk
   left
   refine ⟨n / q, ⟨div_pos_of h2 n0 hm, errI_le n1 (by rw [Int.natAbs_natCast, Int.natAbs_natCast]; exact Nat.div_le_self _ _)⟩, div_less h2 n0, ?_, SEB.of_KP (A := A) (B0 := Bb) (e := .normal) hmix hnum hp (.none _) hB hk rfl⟩
   simp only [strip_step h2 n0 hm]
  ·rw [if_neg hm] at hk
   right
   refine ⟨by simp, ?_⟩
   simp only [strip_end hm]
   exact SEB.of_KP (A := A) (B0 := Bb) (e := .exit 2) hmix hnum hp (.none _) hB hk rfl
 ·cases h
theorem itoa_2 : [50] = itoa ((2 : Nat) : Int) := by rw [itoa_dig (by decide)]; rfl
theorem itoa_5 : [53] = itoa ((5 : Nat) : Int) := by rw [itoa_dig (by decide)]; rfl
theorem errI_2 : errI [50] = 0 := by decide
theorem errI_5 : errI [53] = 0 := by decide
noncomputable def pD1b : Prims := pN.addb 64 2 hookFi
theorem pD1b_ok {A : Amb} (hT : Tab A) (hG : prog.globals.size ≤ A.G) : PrimOK prog A pD1b := by
 refine PrimOK.addb (pN_ok hT hG) func64 (show f64.body = some code64 by kernel_rfl) (body := .loop bodyFi) (by kernel_rfl) fun ρ B e ρ' B' D h => ?_
 unfold hookFi at h
 split at h
 ·exact hookP_ok rfl (loopFi (pN_ok hT hG) (by decide) itoa_2 errI_2 roundFi0) ρ B e ρ' B' D h
 ·exact hookP_ok rfl (loopFi (pN_ok hT hG) (by decide) itoa_5 errI_5 roundFi1) ρ B e ρ' B' D h
def spBI : SP := ⟨[.bool, .is (.int .i64 0)], dd8⟩
theorem run64 (a : List UInt8) : (runK prog pD1b 60).call 64 (spS1.rho [.s a]) (spS1.heap [.s a]) (finQ spBI 8 []) =
  brK (propB (errI a = 0 ∧ 0 < dvalZ a)) ((fun b : List UInt8 => brK (propB (errI b = 0 ∧ 0 < dvalZ b)) (some [.b (itoa ((strip 5 (dvalZ b).toNat : Nat) : Int) == [49])]) none) (itoa ((strip 2 (dvalZ a).toNat : Nat) : Int))) none := by kernel_rfl
noncomputable def T64 : List Lf → Tr (SP × List Lf)
 | [.s a] => .br (propB (errI a = 0 ∧ 0 < dvalZ a)) (.leaf (spBI, [.b (decide (strip 5 (strip 2 (dvalZ a).toNat) = 1))])) .fail
 | _ => .fail
noncomputable def pD1 : Prims := pN.addh 64 (liftG 8 (funQ spS1 8 [] T64))
theorem pD1_ok {A : Amb} (hT : Tab A) (hG : prog.globals.size ≤ A.G) : PrimOK prog A pD1 := by
 refine (pN_ok hT hG).addl gsz func64 (by kernel_rfl) (funQ_ok hmix hnum rfl fun ls sq l h => ?_)
 unfold T64 at h
 split at h
 ·rename_i a
  obtain ⟨hc, hv⟩ := Tr.br1 h
  cases hv
  obtain ⟨h1, h2⟩ := propB_eq hc
  refine ⟨⟨.inr rfl, .inr rfl, .inr rfl, .inr rfl, .inr rfl, .inr rfl, .inr rfl, .inr rfl, trivial⟩, rfl, pD1b, 60, _, pD1b_ok hT hG, (run64 a).trans ?_, fun _ _ => .refl⟩
  have ea := itoa_of h1
  obtain ⟨n, hn⟩ : ∃ n : Nat, dvalZ a = n := ⟨(dvalZ a).toNat, by omega⟩
  rw [hn] at h2 ea ⊢
  subst ea
  obtain ⟨s1, s2, _⟩ := strip_fac (p := 2) (by decide) n (by omega)
  have e2 := errI_le (B := (strip 2 n : Nat)) h1 (by rw [Int.natAbs_natCast, Int.natAbs_natCast]; exact s2)
  dsimp only
  rw [propB_true ⟨h1, h2⟩, brK_t, Int.toNat_natCast, dvalZ_itoa, propB_true ⟨e2, by omega⟩, brK_t, Int.toNat_natCast]
  have hg : (itoa ((strip 5 (strip 2 n) : Nat) : Int) == [49]) = decide (strip 5 (strip 2 n) = 1) := by
   by_cases hx : strip 5 (strip 2 n) = 1
   ·rw [decide_eq_true hx, hx]
    show (itoa 1 == [49]) = true
    rw [itoa_1]; rfl
   ·rw [decide_eq_false hx, beq_eq_false_iff_ne]
    intro e
    rw [← itoa_1] at e
    have := itoa_inj e
    omega
  rw [hg]
 ·cases h
end Go.Proofs.Tryz
