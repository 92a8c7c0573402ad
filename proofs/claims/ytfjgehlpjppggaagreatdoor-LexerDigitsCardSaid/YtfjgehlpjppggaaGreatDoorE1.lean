/- Decimal digits are read again: ratio.Neg, strings.TrimRight of zeros. -/
import Derived.Test.YtfjgehlpjppggaaGreatDoorD4
import Derived.Test.YtfjgehlpjppggaaGreatDoorScanT
namespace Go.Proofs.Tryz
open Go.Ad
open Go.Lib (decDigits itoa nDigits decFrom digitVal)
noncomputable abbrev joinS (x d : List UInt8) : Option (List Lf) :=
 brK (d == [49]) (some [.s x, .i 0]) (brK (decide (x.length + 1 < 4611686018427387904)) (brK (decide ((x ++ [47]).length + d.length < 4611686018427387904)) (some [.s (x ++ [47] ++ d), .i 0]) none) none)
noncomputable abbrev tree83 (a n d : List UInt8) (e : Int) : Option (List Lf) :=
 brK (szH a) (brK (e != 0) (some [.s [], .i e]) (brK (szOK n) (brK ((negR n).2 != 0) (some [.s [], .i (negR n).2]) (joinS (negR n).1 d)) none)) none
theorem run83 (a : List UInt8) : (runK prog pD2 60).call 83 (spS1.rho [.s a]) (spS1.heap [.s a]) (finQ spRI 8 []) = tree83 a (partsR a).1.1 (partsR a).1.2 (partsR a).2 := by kernel_rfl
def negQ (a : List UInt8) : List UInt8 × Int := if errQ a ≠ 0 then ([], errQ a) else (ratT (-dvalZ (cutR a).1) (dvalZ (cutR a).2.1), 0)
theorem joinS_eq {N D : Int} (h1 : (itoa N).length ≤ 5000) (h2 : (itoa D).length ≤ 5000) : joinS (itoa N) (itoa D) = some [.s (ratT N D), .i 0] := by
 unfold joinS ratT
 cases h : itoa D == [49] with
 | true => rfl
 | false =>
  have e1 : (itoa N ++ [47]).length + (itoa D).length < 4611686018427387904 := by rw [List.length_append]; simp only [List.length_singleton]; omega
  rw [decide_eq_true (show (itoa N).length + 1 < 4611686018427387904 by omega), decide_eq_true e1]
  rfl
theorem tree83_eq {a : List UInt8} (h : szH a = true) : tree83 a (partsR a).1.1 (partsR a).1.2 (partsR a).2 = some [.s (negQ a).1, .i (negQ a).2] := by
 unfold tree83 negQ partsR
 rw [h, brK_t]
 by_cases h0 : errQ a = 0
 ·rw [if_neg (by simpa using h0), if_neg (by simpa using h0)]
  obtain ⟨e1, e2, e3, e4⟩ := errQ_ok h0
  dsimp only
  have hn : negR (cutR a).1 = (itoa (-dvalZ (cutR a).1), 0) := by unfold negR; rw [if_neg (by simpa using e1)]
  have zd := itoa_of e2
  rw [hn, errI_sz e1, show ((0 : Int) != 0) = false from rfl, brK_f, brK_t, brK_f]
  have := joinS_eq (errI_len (errI_neg e1)) (errI_len (N := dvalZ (cutR a).2.1) (by rw [← zd]; exact e2))
  rw [← zd] at this
  exact this
 ·rw [if_pos h0, if_pos h0]
  dsimp only
  rw [show (errQ a != 0) = true by simpa using h0]; rfl
noncomputable def T83 : List Lf → Tr (SP × List Lf)
 | [.s a] => .br (szH a) (.leaf (spRI, [.s (negQ a).1, .i (negQ a).2])) .fail
 | _ => .fail
noncomputable def pE1 : Prims := pD2.addh 83 (liftG 8 (funQ spS1 8 [] T83))
theorem pE1_ok {A : Amb} (hT : Tab A) (hG : prog.globals.size ≤ A.G) : PrimOK prog A pE1 := by
 refine (pD2_ok hT hG).addl gsz func83 (by kernel_rfl) (funQ_ok hmix hnum rfl fun ls sq l h => ?_)
 unfold T83 at h
 split at h
 ·rename_i a
  obtain ⟨hc, hv⟩ := Tr.br1 h
  cases hv
  exact ⟨⟨.inr rfl, .inr rfl, .inr rfl, .inr rfl, .inr rfl, .inr rfl, .inr rfl, .inr rfl, trivial⟩, rfl, pD2, 60, _, pD2_ok hT hG, (run83 a).trans (tree83_eq hc), fun _ _ => .refl⟩
 ·cases h
noncomputable def code75 : Code := f75.body.getD .skip
noncomputable def bodyTR : Code := unLoop (findB 0 code75)
def spTR : SP := ⟨[.str, .is (.int .u8 48)] ++ dr 21, dd8⟩
theorem roundTR (a : List UInt8) : execK prog (runK prog lib2 60) noBps bodyTR (spTR.rho [.s a]) (spTR.heap [.s a]) (nrmP (fun _ => spTR) 8 []) =
  brK (decide ((a.length : Int) > 0)) (brK (decide (0 ≤ W ((a.length : Int) - 1) ∧ W ((a.length : Int) - 1) < (a.length : Int))) (brK (((a.getD (W ((a.length : Int) - 1)).toNat 0).toNat : Int) == 48) (brK (decide (0 ≤ W ((a.length : Int) - 1) ∧ W ((a.length : Int) - 1) ≤ (a.length : Int)) && true)
   (some (.normal, [.s ((a.take (W ((a.length : Int) - 1)).toNat).drop 0)])) none) (some (.exit 0, [.s a]))) none) (some (.exit 0, [.s a])) := by kernel_rfl
def trimR (a : List UInt8) : List UInt8 := (a.reverse.dropWhile (· == 48)).reverse
theorem trimR_snoc (l : List UInt8) (c : UInt8) : trimR (l ++ [c]) = if c = 48 then trimR l else l ++ [c] := by
 unfold trimR
 rw [List.reverse_append]
 show (List.dropWhile _ (c :: l.reverse)).reverse = _
 by_cases h : c = 48
 ·subst h; rfl
 ·rw [if_neg h]
  show (match (c == 48) with | true => _ | false => _ : List UInt8).reverse = _
  rw [show (c == 48) = false by simpa using h]
  simp
theorem stepTR {l : List UInt8} {c : UInt8} (hs : (l ++ [c]).length < 2 ^ 62) : execK prog (runK prog lib2 60) noBps bodyTR (spTR.rho [.s (l ++ [c])]) (spTR.heap [.s (l ++ [c])]) (nrmP (fun _ => spTR) 8 []) =
  if c = 48 then some (.normal, [.s l]) else some (.exit 0, [.s (l ++ [c])]) := by
 rw [roundTR]
 have hl : (l ++ [c]).length = l.length + 1 := by simp
 have e1 : W (((l ++ [c]).length : Int) - 1) = (l.length : Int) := by rw [W_id (by omega) (by omega)]; omega
 rw [e1, decide_eq_true (show ((l ++ [c]).length : Int) > 0 by omega), decide_eq_true (show 0 ≤ (l.length : Int) ∧ (l.length : Int) < ((l ++ [c]).length : Int) by omega), decide_eq_true (show 0 ≤ (l.length : Int) ∧ (l.length : Int) ≤ ((l ++ [c]).length : Int) by omega), Int.toNat_natCast,
  show (l ++ [c]).getD l.length 0 = c by simp, List.take_left' rfl, List.drop_zero]
 by_cases h : c = 48
 ·subst h; rfl
 ·have h2 : c.toNat ≠ 48 := fun e => h (UInt8.toNat_inj.1 e)
  rw [if_neg h, show ((c.toNat : Int) == 48) = false by rw [beq_eq_false_iff_ne]; omega]; rfl
noncomputable def hookTR : Blk := hookP spTR 8 [] fun
 | [.s a] => .br (szOK a) (.leaf (.normal, spTR, [.s (trimR a)])) .fail
 | _ => .fail
noncomputable def pE2 : Prims := pE1.addb 75 0 hookTR
theorem pE2_ok {A : Amb} (hT : Tab A) (hG : prog.globals.size ≤ A.G) : PrimOK prog A pE2 := by
 have hp := lib2_ok hT
 refine PrimOK.addbP (pE1_ok hT hG) func75 (show f75.body = some code75 by kernel_rfl) (body := .loop bodyTR) (by kernel_rfl) (by kernel_rfl) fun ls e sq l h => ?_
 split at h
 ·rename_i a
  obtain ⟨hc, hv⟩ := Tr.br1 h
  cases hv
  have hs : a.length < 2 ^ 62 := of_decide_eq_true hc
  refine ⟨⟨.inr rfl, .inr rfl, .inr rfl, .inr rfl, .inr rfl, .inr rfl, .inr rfl, .inr rfl, trivial⟩, fun Bb hB => SEB.block_exit (id := 0) ?_⟩
  refine SEB.while (fun a : List UInt8 => a.length < 2 ^ 62) List.length (fun a => ⟨spTR.rho [.s a], spTR.heap [.s a], []⟩) (fun a => (.exit 0, ⟨spTR.rho [.s (trimR a)], spTR.heap [.s (trimR a)], []⟩)) (fun a ha => ?_) a hs
  rcases List.eq_nil_or_concat a with rfl | ⟨l, c, rfl⟩
  ·right
   have hk : execK prog (runK prog lib2 60) noBps bodyTR (spTR.rho [.s []]) (spTR.heap [.s []]) (nrmP (fun _ => spTR) 8 []) = some (.exit 0, [.s []]) := roundTR []
   exact ⟨by simp, SEB.of_KP (A := A) (B0 := Bb) (e := .exit 0) hmix hnum hp (.none _) hB hk rfl⟩
  ·rw [List.concat_eq_append] at *
   have hk := stepTR ha
   by_cases hb : c = 48
   ·rw [if_pos hb] at hk
    left
    refine ⟨l, by rw [List.length_append] at ha; omega, by simp, ?_, SEB.of_KP (A := A) (B0 := Bb) (e := .normal) hmix hnum hp (.none _) hB hk rfl⟩
    simp only [trimR_snoc, if_pos hb]
   ·rw [if_neg hb] at hk
    right
    refine ⟨by simp, ?_⟩
    simp only [trimR_snoc, if_neg hb]
    exact SEB.of_KP (A := A) (B0 := Bb) (e := .exit 0) hmix hnum hp (.none _) hB hk rfl
 ·cases h
end Go.Proofs.Tryz
namespace Go.Proofs.Tryz
open Go.Ad
open Go.Lib (decDigits itoa nDigits decFrom digitVal)
theorem strip_not {p : Nat} (hp : 2 ≤ p) : ∀ n : Nat, 0 < n → ¬ p ∣ strip p n := fun n => by
 induction n using Nat.strongRecOn with
 | _ n ih =>
  intro hn
  by_cases h : n % p = 0
  ·rw [← strip_step hp hn h]
   exact ih (n / p) (div_less hp hn) (div_pos_of hp hn h)
  ·rw [strip_end h]
   exact fun hd => h (Nat.mod_eq_zero_of_dvd hd)
theorem strip_dvd {p n : Nat} (hp : 2 ≤ p) (hn : 0 < n) : strip p n ∣ n := by
 obtain ⟨_, _, k, hk⟩ := strip_fac hp n hn
 exact ⟨p ^ k, hk⟩
theorem cop2 {m : Nat} (h : ¬ 2 ∣ m) : Nat.Coprime m 2 := by
 have h1 := Nat.gcd_dvd_left m 2
 have h2 := Nat.gcd_dvd_right m 2
 have h3 := Nat.le_of_dvd (by decide) h2
 have h4 : Nat.gcd m 2 ≠ 0 := fun e => by rw [e] at h2; omega
 have h5 : Nat.gcd m 2 ≠ 2 := fun e => h (by rw [e] at h1; exact h1)
 show Nat.gcd m 2 = 1
 omega
theorem cop5 {m : Nat} (h : ¬ 5 ∣ m) : Nat.Coprime m 5 := by
 have h1 := Nat.gcd_dvd_left m 5
 have h2 := Nat.gcd_dvd_right m 5
 have h3 := Nat.le_of_dvd (by decide) h2
 have h4 : Nat.gcd m 5 ≠ 0 := fun e => by rw [e] at h2; omega
 have h5 : Nat.gcd m 5 ≠ 5 := fun e => h (by rw [e] at h1; exact h1)
 have h6 : Nat.gcd m 5 ≠ 2 ∧ Nat.gcd m 5 ≠ 3 ∧ Nat.gcd m 5 ≠ 4 := ⟨fun e => by rw [e] at h2; omega, fun e => by rw [e] at h2; omega, fun e => by rw [e] at h2; omega⟩
 show Nat.gcd m 5 = 1
 omega
theorem ten_strip {D k : Nat} (h0 : 0 < D) (h : D ∣ 10 ^ k) : strip 5 (strip 2 D) = 1 := by
 obtain ⟨p1, _, _⟩ := strip_fac (p := 2) (by decide) D h0
 have hm : strip 2 D ∣ 2 ^ k * 5 ^ k := by
  rw [← Nat.mul_pow]
  exact Nat.dvd_trans (strip_dvd (by decide) h0) h
 have h1 := Nat.Coprime.dvd_of_dvd_mul_left (Nat.Coprime.pow_right k (cop2 (strip_not (by decide) D h0))) hm
 have hm2 : strip 5 (strip 2 D) ∣ 5 ^ k * 1 := by
  rw [Nat.mul_one]
  exact Nat.dvd_trans (strip_dvd (by decide) p1) h1
 exact Nat.dvd_one.1 (Nat.Coprime.dvd_of_dvd_mul_left (Nat.Coprime.pow_right k (cop5 (strip_not (by decide) _ p1))) hm2)
theorem lowT_red {A B N D : Nat} (hB : 0 < B) (hD : 0 < D) (hg : Nat.gcd N D = 1) (h : A * D = N * B) : lowT (A : Int) (B : Int) = ratT (N : Int) (D : Int) := by
 have hdb : D ∣ B := by
  have h1 : D ∣ N * B := ⟨A, by rw [Nat.mul_comm D A]; exact h.symm⟩
  exact Nat.Coprime.dvd_of_dvd_mul_left (show Nat.gcd D N = 1 by rw [Nat.gcd_comm]; exact hg) h1
 obtain ⟨g, rfl⟩ := hdb
 have hg0 : 0 < g := Nat.pos_of_ne_zero fun e => by rw [e, Nat.mul_zero] at hB; omega
 have hA : A = N * g := by
  have h2 : D * A = D * (N * g) := by rw [Nat.mul_comm D A, h, ← Nat.mul_assoc, ← Nat.mul_assoc, Nat.mul_comm N D]
  exact Nat.eq_of_mul_eq_mul_left hD h2
 subst hA
 have hgcd : Int.gcd ((N * g : Nat) : Int) ((D * g : Nat) : Int) = g := by
  rw [Int.gcd_natCast_natCast, Nat.gcd_mul_right, hg, Nat.one_mul]
 unfold lowT sgG
 rw [if_neg (by omega), hgcd, fdivN, fdivN, Nat.mul_div_cancel _ hg0, Nat.mul_div_cancel _ hg0]
theorem errQ_ratT {N D : Int} (h1 : errI (itoa N) = 0) (h2 : errI (itoa D) = 0) (hD : 1 ≤ D) (hg : Int.gcd N D = 1) : errQ (ratT N D) = 0 := by
 have hc := cutR_ratT N D
 have hw : (cutR (ratT N D)).2.2 = true → 1 < D := fun hw => by
  by_cases h : D = 1
  ·subst h
   have : itoa 1 == [49] := by rw [itoa_1]; rfl
   unfold ratT cutR at hw
   rw [this, cond_true, cutAt_none (no_slash N)] at hw
   cases hw
  ·omega
 unfold errQ
 rw [hc.1, hc.2, if_neg (by rw [h1, h2]; simp), if_neg (by rw [h1, h2]; simp), dvalZ_itoa, dvalZ_itoa, if_neg fun h => h.2 ⟨hw h.1, hg⟩]
theorem ratT_of {x : List UInt8} (h : errQ x = 0) : x = ratT (dvalZ (cutR x).1) (dvalZ (cutR x).2.1) := by
 obtain ⟨e1, e2, e3, e4⟩ := errQ_ok h
 have z1 := itoa_of e1
 have z2 := itoa_of e2
 unfold ratT
 rw [← z1, ← z2]
 unfold errQ at h
 rw [if_neg (by rw [e1, e2]; simp), if_neg (by rw [e1, e2]; simp)] at h
 cases hc : cutAt 47 x with
 | none =>
  have hx : cutR x = (x, [49], false) := by unfold cutR; rw [hc]
  rw [hx]; rfl
 | some p =>
  obtain ⟨n, d⟩ := p
  obtain ⟨hx, _⟩ := cutAt_some hc
  have hr : cutR x = (n, d, true) := by unfold cutR; rw [hc]
  rw [hr] at h ⊢
  simp only at h ⊢
  have h1 : 1 < dvalZ d ∧ Int.gcd (dvalZ n) (dvalZ d) = 1 := by
   by_cases hh : 1 < dvalZ d ∧ Int.gcd (dvalZ n) (dvalZ d) = 1
   ·exact hh
   ·rw [if_pos ⟨trivial, hh⟩] at h; cases h
  have hne : (d == [49]) = false := by
   rw [beq_eq_false_iff_ne]
   intro e
   rw [e] at h1
   exact absurd h1.1 (by decide)
  rw [hne, cond_false, hx, List.append_assoc]; rfl
end Go.Proofs.Tryz
namespace Go.Proofs.Tryz
open Go.Ad
open Go.Lib (decDigits itoa nDigits decFrom digitVal)
def Lneg (t : List UInt8) (k : Int) : List Tok := [(2, [45], 0), (1, t, 1), (3, [], k)]
def spSg : SP := ⟨[.list 8, .is (.int .i64 0)], dd8 ++ [.vec 3 52]⟩
def sqSg : SP := ⟨[.str, .int .i64, .int .i64], dd8 ++ [.vec 3 52]⟩
noncomputable abbrev lfSg (x : List UInt8) (i e : Int) (f : Nat → List AV) : Option (List Lf) := some [.s x, .i i, .i e, .n 3, .r f]
noncomputable abbrev tree34 (t : List UInt8) (f : Nat → List AV) : Option (List Lf) :=
 brK (szOK t) (brK ((valR t).2 == 0) (brK (szH (valR t).1) (brK ((negQ (valR t).1).2 != 0) (lfSg [] 0 (negQ (valR t).1).2 f) (lfSg (negQ (valR t).1).1 2 0 f)) none)
  (brK ((valR t).2 != 0) (lfSg [] 0 (valR t).2 f) (lfSg (valR t).1 2 0 f))) none
theorem run34 (t : List UInt8) (k : Int) : (runK prog pE2 60).call 34 (spSg.rho [.n 3, .n 3, .r (rowsT (Lneg t k))]) (spSg.heap [.n 3, .n 3, .r (rowsT (Lneg t k))]) (finQ sqSg 9 []) = tree34 t (rowsT (Lneg t k)) := by kernel_rfl
def tkN (f : Nat → List AV) : List UInt8 := ((toksOf 3 f).getD 1 tok0).2.1
def isNegF (f : Nat → List AV) : Prop := ∃ t k, errN t = 0 ∧ f = rowsT (Lneg t k)
theorem tkN_rows (t : List UInt8) (k : Int) : tkN (rowsT (Lneg t k)) = t := by
 unfold tkN
 rw [show (3 : Nat) = (Lneg t k).length from rfl, toksOf_rows]; rfl
theorem val_low {s f b : List UInt8} (h0 : errN s = 0) (h : NumS s f b) : ∃ N D : Nat, valR s = (ratT (N : Int) (D : Int), 0) ∧ 0 < D ∧ Nat.gcd N D = 1 ∧ digW 0 (f ++ b) * D = N * 10 ^ b.length ∧ D ∣ 10 ^ b.length ∧ N ≤ digW 0 (f ++ b) := by
 have hB : 0 < 10 ^ b.length := Nat.pow_pos (by decide)
 have hv : valR s = (lowT ((digW 0 (f ++ b) : Nat) : Int) ((10 ^ b.length : Nat) : Int), 0) := by
  unfold valR
  rw [if_neg (by rw [h0]; simp), h.cut.1, h.cut.2]; rfl
 generalize hA : digW 0 (f ++ b) = A at *
 generalize 10 ^ b.length = B at *
 have hg : 0 < Nat.gcd A B := Nat.gcd_pos_of_pos_right _ hB
 have hdA : Nat.gcd A B ∣ A := Nat.gcd_dvd_left ..
 have hdB : Nat.gcd A B ∣ B := Nat.gcd_dvd_right ..
 have hD : 0 < B / Nat.gcd A B := Nat.div_pos (Nat.le_of_dvd hB hdB) hg
 have hc : Nat.gcd (A / Nat.gcd A B) (B / Nat.gcd A B) = 1 := Nat.coprime_div_gcd_div_gcd hg
 have he : A * (B / Nat.gcd A B) = A / Nat.gcd A B * B := by
  rw [Nat.mul_comm (A / _), ← Nat.mul_div_assoc _ hdB, ← Nat.mul_div_assoc _ hdA, Nat.mul_comm A B]
 exact ⟨A / Nat.gcd A B, B / Nat.gcd A B, by rw [hv, lowT_red hB hD hc he], hD, hc, he, Nat.div_dvd_of_dvd hdB, Nat.div_le_self _ _⟩
theorem num_lt {s f b : List UInt8} (h : NumS s f b) : digW 0 (f ++ b) < 10 ^ 1024 ∧ 10 ^ b.length < 10 ^ 1024 := ⟨h.small.2.2, ten_lt (by
 have := h.small.2.1
 rw [List.length_append] at this
 omega)⟩
theorem val_right {t : List UInt8} (h0 : errN t = 0) : errQ (valR t).1 = 0 ∧ szH (valR t).1 = true ∧ szOK t = true ∧ (valR t).2 = 0 := by
 obtain ⟨f, b, h⟩ := num_shape h0
 obtain ⟨N, D, hv, hD, hg, he, hdv, hle⟩ := val_low h0 h
 obtain ⟨l1, l2⟩ := num_lt h
 have hN : N < 10 ^ 1024 := Nat.lt_of_le_of_lt hle l1
 have hDl : D < 10 ^ 1024 := Nat.lt_of_le_of_lt (Nat.le_of_dvd (Nat.pow_pos (by decide)) hdv) l2
 have i1 := itoaN_len hN (by decide)
 have i2 := itoaN_len hDl (by decide)
 rw [hv]
 refine ⟨errQ_ratT (errI_small hN) (errI_small hDl) (by omega) (by rw [Int.gcd_natCast_natCast]; exact hg), ?_, decide_eq_true (by have := h.len; omega), rfl⟩
 refine decide_eq_true ?_
 unfold ratT
 cases itoa (D : Int) == [49] with
 | true => show (itoa (N : Int)).length < _; omega
 | false =>
  show (itoa (N : Int) ++ [47] ++ itoa (D : Int)).length < _
  rw [List.length_append, List.length_append]; simp only [List.length_cons, List.length_nil]; omega
noncomputable def T34 : List Lf → Tr (SP × List Lf)
 | [.n n, .n m, .r f] => .br (propB (n = 3 ∧ m = 3 ∧ isNegF f)) (.leaf (sqSg, [.s (negQ (valR (tkN f)).1).1, .i 2, .i 0, .n 3, .r f])) .fail
 | _ => .fail
noncomputable def pE3 : Prims := pE2.addh 34 (liftG 8 (funQ spSg 9 [] T34))
theorem pE3_ok {A : Amb} (hT : Tab A) (hG : prog.globals.size ≤ A.G) : PrimOK prog A pE3 := by
 refine (pE2_ok hT hG).addl gsz func34 (by kernel_rfl) (funQ_ok hmix hnum rfl fun ls sq l h => ?_)
 unfold T34 at h
 split at h
 ·rename_i n m f
  obtain ⟨hc, hv⟩ := Tr.br1 h
  cases hv
  obtain ⟨rfl, rfl, t, k, h0, rfl⟩ := propB_eq hc
  refine ⟨⟨.inr rfl, .inr rfl, .inr rfl, .inr rfl, .inr rfl, .inr rfl, .inr rfl, .inr rfl, .inr rfl, trivial⟩, rfl, pE2, 60, _, pE2_ok hT hG, (run34 t k).trans ?_, fun _ _ => .refl⟩
  obtain ⟨v1, v2, v3, v4⟩ := val_right h0
  have v5 : (negQ (valR t).1).2 = 0 := by unfold negQ; rw [if_neg (by rw [v1]; simp)]
  unfold tree34
  rw [tkN_rows, v3, v2, v4, v5]
  rfl
 ·cases h
end Go.Proofs.Tryz
namespace Go.Proofs.Tryz
open Go.Ad
open Go.Lib (decDigits itoa nDigits decFrom digitVal)
theorem trimR_app (l b : List UInt8) : trimR (l ++ b) = if trimR b = [] then trimR l else l ++ trimR b := by
 unfold trimR
 rw [List.reverse_append, List.dropWhile_append]
 by_cases h : b.reverse.dropWhile (· == 48) = []
 ·rw [h]; simp
 ·have h2 : (b.reverse.dropWhile (· == 48)).isEmpty = false := by
   cases hh : b.reverse.dropWhile (· == 48) with
   | nil => exact (h hh).elim
   | cons => rfl
  rw [h2, if_neg (by simp), if_neg (by simpa using h), List.reverse_append, List.reverse_reverse]
theorem trimR_zeros (b : List UInt8) : ∃ j, b = trimR b ++ List.replicate j 48 := by
 refine ⟨(b.reverse.takeWhile (· == 48)).length, ?_⟩
 have h1 := List.takeWhile_append_dropWhile (p := (· == (48 : UInt8))) (l := b.reverse)
 have h2 : b.reverse.takeWhile (· == 48) = List.replicate (b.reverse.takeWhile (· == 48)).length 48 := by
  refine List.eq_replicate_iff.2 ⟨rfl, fun c hc => ?_⟩
  have := List.all_eq_true.1 (List.all_takeWhile (p := (· == (48 : UInt8))) (l := b.reverse)) c hc
  simpa using this
 have h3 := congrArg List.reverse h1
 rw [List.reverse_append, List.reverse_reverse] at h3
 unfold trimR
 conv => lhs; rw [← h3]
 congr 1
 conv => lhs; rw [h2]
 rw [List.reverse_replicate]
theorem trimR_last {b : List UInt8} (h : trimR b ≠ []) : (trimR b).getLast h ≠ 48 := by
 unfold trimR at h ⊢
 rw [List.getLast_reverse]
 have h1 := List.head?_dropWhile_not (p := (· == (48 : UInt8))) (l := b.reverse)
 have h2 : ∀ x, (b.reverse.dropWhile (· == 48)).head? = some x → (x == 48) = false := fun x hx => by rw [hx] at h1; exact h1
 have key : ∀ (l : List UInt8) (h : l ≠ []), (∀ x, l.head? = some x → (x == 48) = false) → l.head h ≠ 48 := fun l h h1 => by
  cases l with
  | nil => exact (h rfl).elim
  | cons c r => simpa using h1 c rfl
 exact key _ _ h2
theorem trimR_all {b : List UInt8} (h : b.all isDg = true) : (trimR b).all isDg = true := by
 obtain ⟨j, hj⟩ := trimR_zeros b
 rw [hj, List.all_append, Bool.and_eq_true] at h
 exact h.1
theorem digW_pow (q : Nat) : ∀ j : Nat, digW q (List.replicate j 48) = q * 10 ^ j
 | 0 => by simp [digW]
 | j + 1 => by
  rw [List.replicate_succ]
  show digW (q * 10 + ((48 : UInt8).toNat - 48)) (List.replicate j 48) = _
  rw [show (48 : UInt8).toNat - 48 = 0 from rfl, Nat.add_zero, digW_pow, Nat.pow_succ, Nat.mul_assoc, Nat.mul_comm 10]
def sufT (u : List UInt8) : List UInt8 := if u.getLast? = some 46 then u.dropLast else u
theorem front_itoa {f : List UInt8} (h1 : f.all isDg = true) (h2 : f ≠ []) (h3 : 1 < f.length → f.headD 0 ≠ 48) : f = itoa ((digW 0 f : Nat) : Int) := by
 rw [itoaN]
 have hd := digits_dec _ f rfl h2 h1 (by
  rcases Nat.lt_or_ge 1 f.length with h | h
  ·exact .inl (h3 h)
  ·right
   cases f with
   | nil => exact (h2 rfl).elim
   | cons c r => simp at h ⊢; exact h)
 rw [dvalN_digV h1] at hd
 exact hd
theorem digit_ne_point {c : UInt8} (h : isDg c = true) : c ≠ 46 := fun e => by subst e; exact absurd h (by decide)
theorem norm_point {s f b : List UInt8} (hs : s = f ++ 46 :: b) (hb : b.all isDg = true) : sufT (trimR s) = f ++ (if trimR b = [] then [] else 46 :: trimR b) := by
 have e1 : s = f ++ [46] ++ b := by rw [hs, List.append_assoc]; rfl
 rw [e1, trimR_app]
 by_cases h : trimR b = []
 ·rw [if_pos h, if_pos h, trimR_snoc, if_neg (by decide)]
  unfold sufT
  rw [List.getLast?_append]
  simp
 ·rw [if_neg h, if_neg h]
  unfold sufT
  have hl : (f ++ [46] ++ trimR b).getLast? = some ((trimR b).getLast h) := by
   rw [List.getLast?_append, List.getLast?_eq_some_getLast h]; rfl
  have hd : isDg ((trimR b).getLast h) = true := List.all_eq_true.1 (trimR_all hb) _ (List.getLast_mem h)
  rw [hl, if_neg (fun e => digit_ne_point hd (Option.some.inj e)), List.append_assoc]; rfl
theorem len_num {s f b : List UInt8} (h : NumS s f b) : f.length + b.length ≤ 24 := by
 have := h.small.2.1
 rwa [List.length_append] at this
theorem dec_low {N D : Nat} (hN : N < 10 ^ 1024) (hD : 0 < D) (hD2 : D < 10 ^ 1024) (hg : Nat.gcd N D = 1) (hs : strip 5 (strip 2 D) = 1) : decR (ratT (N : Int) (D : Int)) = (decT (N : Int) D, 0) ∧ errQ (ratT (N : Int) (D : Int)) = 0 := by
 have hc := cutR_ratT (N : Int) (D : Int)
 have he := errQ_ratT (N := (N : Int)) (D := (D : Int)) (errI_small hN) (errI_small hD2) (by omega) (by rw [Int.gcd_natCast_natCast]; exact hg)
 refine ⟨?_, he⟩
 unfold decR
 rw [if_neg (by rw [he]; simp), hc.1, hc.2, dvalZ_itoa, dvalZ_itoa, Int.toNat_natCast, if_neg (by rw [hs]; simp)]
theorem digits_law {s f b : List UInt8} (h0 : errN s = 0) (h : NumS s f b) : (decR (valR s).1) = (f ++ (if trimR b = [] then [] else 46 :: trimR b), 0) ∧ (valR s).1.length ≤ 900 := by
 obtain ⟨N, D, hv, hD, hg, he, hdv, hle⟩ := val_low h0 h
 obtain ⟨l1, l2⟩ := num_lt h
 have hDl : D < 10 ^ 1024 := Nat.lt_of_le_of_lt (Nat.le_of_dvd (Nat.pow_pos (by decide)) hdv) l2
 have hs := ten_strip hD hdv
 have hlen := len_num h
 obtain ⟨hd, hq⟩ := dec_low (Nat.lt_of_le_of_lt hle l1) hD hDl hg hs
 rw [hv]
 have hN24 : N < 10 ^ 24 := by
  refine Nat.lt_of_le_of_lt hle ?_
  have h3 := digV_lt (f ++ b) 0 h.small.1
  rw [Nat.zero_add, Nat.one_mul] at h3
  exact lt_pow10 24 h3 h.small.2.1
 have hD24 : D < 10 ^ 25 := Nat.lt_of_le_of_lt (Nat.le_of_dvd (Nat.pow_pos (by decide)) hdv) (pow10_lt 25 (by omega))
 refine ⟨?_, ?_⟩
 ·rw [hd]
  refine Prod.ext ?_ rfl
  have hr : N % D < D := Nat.mod_lt _ hD
  have hdr : D ∣ (N % D) * 10 ^ (4 * (itoa (D : Int)).length) := Nat.dvd_trans (fin_dvd hD hs) (Nat.dvd_mul_left _ _)
  have hw := digW_digs hD (4 * (itoa (D : Int)).length) (N % D) (N / D) hr hdr
  have hdm : N / D * D + N % D = N := by rw [Nat.mul_comm]; exact Nat.div_add_mod N D
  rw [hdm] at hw
  obtain ⟨j, hj⟩ := trimR_zeros b
  have hb0 : digW 0 (f ++ b) = digW (digW 0 f) (trimR b) * 10 ^ j := by
   rw [digW_append]
   conv => lhs; rw [hj]
   rw [digW_append, digW_pow]
  have hbl : b.length = (trimR b).length + j := by
   have := congrArg List.length hj
   rwa [List.length_append, List.length_replicate] at this
  rw [hb0, hbl, Nat.pow_add] at he
  have he2 : digW (digW 0 f) (trimR b) * D = N * 10 ^ (trimR b).length := by
   refine Nat.eq_of_mul_eq_mul_right (Nat.pow_pos (n := j) (show 0 < 10 by decide)) ?_
   rw [Nat.mul_right_comm, he, Nat.mul_assoc]
  generalize hdb : digs D (4 * (itoa (D : Int)).length) (N % D) = db at hw
  have hdl : ∀ h : db ≠ [], db.getLast h ≠ 48 := by rw [← hdb]; exact digs_last hD _ _ hr hdr
  have hda : db.all isDg = true := by rw [← hdb]; exact digs_all _ _
  have key := point_unique (n := digW 0 f) (n' := N / D) (trimR_all h.db) hda (fun h => trimR_last h) hdl (by
   refine Nat.eq_of_mul_eq_mul_right hD ?_
   rw [Nat.mul_right_comm, he2, Nat.mul_right_comm (digW (N / D) db), hw, Nat.mul_right_comm])
  obtain ⟨k1, k2⟩ := key
  unfold decT
  rw [if_neg (by omega), List.nil_append, Int.natAbs_natCast, ← k1, ← front_itoa h.df h.ne h.head]
  congr 1
  unfold fracT
  rw [hdb, k2]
  by_cases h0 : N % D = 0
  ·rw [h0, digs_zero] at hdb
   rw [if_pos h0, if_pos hdb.symm]
  ·have : db ≠ [] := fun e => by
    rw [e] at hw
    have hw : N / D * D = N * 10 ^ 0 := hw
    rw [Nat.pow_zero, Nat.mul_one] at hw
    omega
   rw [if_neg h0, if_neg this]
 ·have i1 := itoaN_len hN24 (by decide)
  have i2 := itoaN_len hD24 (by decide)
  unfold ratT
  cases itoa (D : Int) == [49] with
  | true => show (itoa (N : Int)).length ≤ 900; omega
  | false =>
   show (itoa (N : Int) ++ [47] ++ itoa (D : Int)).length ≤ 900
   rw [List.length_append, List.length_append]; simp only [List.length_cons, List.length_nil]; omega
end Go.Proofs.Tryz
namespace Go.Proofs.Tryz
open Go.Ad
open Go.Lib (decDigits itoa nDigits decFrom digitVal)
theorem dec_head48 : ∀ q : Nat, 10 ≤ q → (decDigits q).headD 0 ≠ 48 := fun q => by
 induction q using Nat.strongRecOn with
 | _ q ih =>
  intro hq
  rw [dec_big (by omega)]
  have hne := dec_ne (q / 10)
  have hh : (decDigits (q / 10) ++ [dig q]).headD 0 = (decDigits (q / 10)).headD 0 := by
   cases h : decDigits (q / 10) with
   | nil => exact (hne h).elim
   | cons c r => rfl
  rw [hh]
  by_cases h : q / 10 < 10
  ·rw [dec_small h]
   intro e
   have e := congrArg UInt8.toNat (show dig (q / 10) = 48 from e)
   rw [dig_toNat] at e
   have e : 48 + q / 10 % 10 = 48 := e
   omega
  ·exact ih (q / 10) (by omega) (by omega)
theorem front_head {q : Nat} (h : 1 < (itoa (q : Int)).length) : (itoa (q : Int)).headD 0 ≠ 48 := by
 rw [itoaN] at h ⊢
 by_cases hq : q < 10
 ·rw [dec_small hq] at h; simp at h
 ·exact dec_head48 q (by omega)
theorem bAt_head (s : List UInt8) : bAt s 0 = ((s.headD 0).toNat : Int) := by unfold bAt; cases s <;> rfl
theorem tw_point {f b : List UInt8} (hf : f.all isDg = true) : (f ++ 46 :: b).takeWhile isDg = f := by
 rw [List.takeWhile_append_of_pos (fun a ha => List.all_eq_true.1 hf a ha), List.takeWhile_cons_of_neg (by decide), List.append_nil]
theorem num_mk {q : Nat} {b u : List UInt8} (hb : b.all isDg = true) (hu : u = itoa (q : Int) ++ (if b = [] then [] else 46 :: b)) (hl : u.length ≤ 24) : errN u = 0 ∧ (cutS u).1 = itoa (q : Int) ∧ (cutS u).2.1 = b := by
 have hf := itoaN_all q
 have hne := itoa_ne (q : Int)
 have hfh := front_head (q := q)
 generalize itoa (q : Int) = f at *
 have hpos : 0 < f.length := by cases f with | nil => exact (hne rfl).elim | cons => simp
 have h48 : ∀ r : List UInt8, 1 < f.length → bAt (f ++ r) 0 ≠ 48 := fun r h e => by
  rw [bAt_head] at e
  have hh : (f ++ r).headD 0 = f.headD 0 := by cases f with | nil => exact (hne rfl).elim | cons => rfl
  rw [hh] at e
  exact hfh h (UInt8.toNat_inj.1 (by show (f.headD 0).toNat = 48; omega))
 by_cases h : b = []
 ·rw [if_pos h, List.append_nil] at hu
  subst hu h
  have hlc : lenC [2] u = u.length := by rw [lenC_tw, tw_all hf]
  have hn : numN u = (u.length, u.length) := by
   unfold numN
   rw [hlc, decide_eq_false (show ¬ u.length + 1 < u.length by omega), Bool.false_and, Bool.and_false]; rfl
  refine ⟨?_, ?_⟩
  ·unfold errN
   rw [hn, if_neg, if_neg (by omega)]
   intro hx
   rcases hx with hx | hx | ⟨hx, hy⟩
   ·simp only at hx; omega
   ·exact hx rfl
   ·have := h48 [] hx
    rw [List.append_nil] at this
    exact this hy
  ·unfold cutS; rw [cutAt_none (no_point hf)]; exact ⟨rfl, rfl⟩
 ·rw [if_neg h] at hu
  subst hu
  have hbp : 0 < b.length := by cases b with | nil => exact (h rfl).elim | cons => simp
  have hlc : lenC [2] (f ++ 46 :: b) = f.length := by rw [lenC_tw, tw_point hf]
  have hdrop : (f ++ 46 :: b).drop (f.length + 1) = b := by
   rw [List.drop_append, List.drop_eq_nil_of_le (by omega), show f.length + 1 - f.length = 1 by omega]; rfl
  have hlb : lenC [2] b = b.length := by rw [lenC_tw, tw_all hb]
  have hlen : (f ++ 46 :: b).length = f.length + 1 + b.length := by rw [List.length_append, List.length_cons]; omega
  have hpt : (bAt (f ++ 46 :: b) f.length == 46) = true := by
   unfold bAt
   rw [List.getD_eq_getElem?_getD, List.getElem?_append_right (Nat.le_refl _)]
   simp
  have hn : numN (f ++ 46 :: b) = (f.length + 1 + b.length, f.length) := by
   unfold numN
   rw [hlc, hdrop, hlb, hpt, hlen, decide_eq_true hpos, decide_eq_true hbp, decide_eq_true (show f.length + 1 < f.length + 1 + b.length by omega)]; rfl
  refine ⟨?_, ?_⟩
  ·unfold errN
   rw [hn, if_neg, if_neg (by omega)]
   intro hx
   rcases hx with hx | hx | ⟨hx, hy⟩
   ·simp only at hx; omega
   ·exact hx hlen.symm
   ·exact h48 _ hx hy
  ·unfold cutS; rw [cutAt_mk (no_point hf)]; exact ⟨rfl, rfl⟩
theorem read_val {N D : Nat} {u : List UInt8} (hD : 0 < D) (hg : Nat.gcd N D = 1) (hs : strip 5 (strip 2 D) = 1) (hu : u = itoa ((N / D : Nat) : Int) ++ fracT D (N % D)) (hl : u.length ≤ 24) : errN u = 0 ∧ valR u = (ratT (N : Int) (D : Int), 0) := by
 have hr : N % D < D := Nat.mod_lt _ hD
 have hdr : D ∣ (N % D) * 10 ^ (4 * (itoa (D : Int)).length) := Nat.dvd_trans (fin_dvd hD hs) (Nat.dvd_mul_left _ _)
 have hw := digW_digs hD (4 * (itoa (D : Int)).length) (N % D) (N / D) hr hdr
 have hdm : N / D * D + N % D = N := by rw [Nat.mul_comm]; exact Nat.div_add_mod N D
 rw [hdm] at hw
 have hfr : fracT D (N % D) = if digs D (4 * (itoa (D : Int)).length) (N % D) = [] then [] else 46 :: digs D (4 * (itoa (D : Int)).length) (N % D) := by
  unfold fracT
  by_cases h0 : N % D = 0
  ·rw [if_pos h0, h0, digs_zero]; rfl
  ·rw [if_neg h0, if_neg]
   intro e
   rw [e] at hw
   have hw : N / D * D = N * 10 ^ 0 := hw
   rw [Nat.pow_zero, Nat.mul_one] at hw
   omega
 rw [hfr] at hu
 have hda := digs_all (d := D) (4 * (itoa (D : Int)).length) (N % D)
 generalize digs D (4 * (itoa (D : Int)).length) (N % D) = db at *
 obtain ⟨h1, h2, h3⟩ := num_mk hda hu hl
 refine ⟨h1, ?_⟩
 unfold valR
 rw [if_neg (by rw [h1]; simp), h2, h3]
 have hA : digV 0 (itoa ((N / D : Nat) : Int) ++ db) = digW (N / D) db := by
  show digW 0 _ = _
  rw [digW_append, digW_itoa]
 rw [hA, lowT_red (Nat.pow_pos (by decide)) hD hg hw]
end Go.Proofs.Tryz
namespace Go.Proofs.Tryz
open Go.Ad
open Go.Lib (decDigits itoa nDigits decFrom digitVal)
def txA : List UInt8 := [104, 111, 108, 101, 32, 65, 32, 50, 53, 32, 72, 55, 47, 103, 54]
def txB : List UInt8 := [97, 44, 32, 40, 98, 44, 32, 99, 41, 44, 32, 100]
def rVal : AV := .tuple [.str [50, 53, 47, 50], .int .i64 0]
def rDec1 : AV := .tuple [.str [49, 50, 46, 53], .int .i64 0]
def rDec2 : AV := .tuple [.str [], .int .i64 14]
def rDec3 : AV := .tuple [.str [45, 49, 46, 55, 53], .int .i64 0]
def rNor : AV := .tuple [.str [104, 111, 108, 101, 32, 65, 32, 50, 53, 72, 55, 47, 103, 54], .int .i64 0, .int .i64 0]
theorem itoa_1d {n : Nat} (h : n < 10) : itoa (n : Int) = [UInt8.ofNat (48 + n)] := itoa_dig h
theorem itoa_2d {n : Nat} (h : n < 100) (h2 : 10 ≤ n) : itoa (n : Int) = [UInt8.ofNat (48 + n / 10), UInt8.ofNat (48 + n % 10)] := by
 rw [itoaN, dec_big (by omega), dec_small (by omega)]
 unfold dig
 rw [Nat.mod_eq_of_lt (show n / 10 < 10 by omega)]
 rfl
theorem valA : valR [49, 50, 46, 53, 48] = ([50, 53, 47, 50], 0) := by
 unfold valR
 rw [if_neg (by decide), show ((cutS [49, 50, 46, 53, 48]).1 ++ (cutS [49, 50, 46, 53, 48]).2.1 : List UInt8) = [49, 50, 53, 48] from rfl, show (cutS [49, 50, 46, 53, 48]).2.1 = ([53, 48] : List UInt8) from rfl]
 show (lowT 1250 100, (0 : Int)) = _
 unfold lowT sgG ratT
 rw [if_neg (by decide), show Int.gcd 1250 100 = 50 from by decide]
 show ((bif itoa ((2 : Nat) : Int) == [49] then itoa ((25 : Nat) : Int) else itoa ((25 : Nat) : Int) ++ [47] ++ itoa ((2 : Nat) : Int)), (0 : Int)) = _
 rw [itoa_1d (n := 2) (by decide), itoa_2d (n := 25) (by decide) (by decide)]
 rfl
theorem decA1 : decR [50, 53, 47, 50] = ([49, 50, 46, 53], 0) := by
 unfold decR
 rw [if_neg (by decide), if_neg (by decide)]
 show (decT 25 2, (0 : Int)) = _
 unfold decT fracT
 rw [if_neg (by decide)]
 show ([] ++ (itoa ((12 : Nat) : Int) ++ (if (1 : Nat) = 0 then [] else 46 :: digs 2 (4 * (itoa ((2 : Nat) : Int)).length) 1)), (0 : Int)) = _
 rw [itoa_1d (n := 2) (by decide), itoa_2d (n := 12) (by decide) (by decide), if_neg (by decide)]
 show (_ ++ (_ ++ 46 :: digs 2 (3 + 1) 1), (0 : Int)) = _
 rw [digs_next (by decide)]
 show (_ ++ (_ ++ 46 :: (itoa ((5 : Nat) : Int) ++ digs 2 3 0)), (0 : Int)) = _
 rw [itoa_1d (n := 5) (by decide), digs_zero]
 rfl
theorem decA2 : decR [49, 47, 51] = ([], 14) := by
 unfold decR
 rw [if_neg (by decide), if_pos (by decide)]
theorem decA3 : decR [45, 55, 47, 52] = ([45, 49, 46, 55, 53], 0) := by
 unfold decR
 rw [if_neg (by decide), if_neg (by decide)]
 show (decT (-7) 4, (0 : Int)) = _
 unfold decT fracT
 rw [if_pos (by decide)]
 show ([45] ++ (itoa ((1 : Nat) : Int) ++ (if (3 : Nat) = 0 then [] else 46 :: digs 4 (4 * (itoa ((4 : Nat) : Int)).length) 3)), (0 : Int)) = _
 rw [itoa_1d (n := 4) (by decide), itoa_1d (n := 1) (by decide), if_neg (by decide)]
 show (_ ++ (_ ++ 46 :: digs 4 (3 + 1) 3), (0 : Int)) = _
 rw [digs_next (by decide)]
 show (_ ++ (_ ++ 46 :: (itoa ((7 : Nat) : Int) ++ digs 4 (2 + 1) 2)), (0 : Int)) = _
 rw [digs_next (by decide)]
 show (_ ++ (_ ++ 46 :: (itoa ((7 : Nat) : Int) ++ (itoa ((5 : Nat) : Int) ++ digs 4 2 0))), (0 : Int)) = _
 rw [itoa_1d (n := 7) (by decide), itoa_1d (n := 5) (by decide), digs_zero]
 rfl
theorem kVal : (runK prog pD2 60).call 27 [.str [49, 50, 46, 53, 48]] (Bg 8) finV = some (.tuple [.sstr (valR [49, 50, 46, 53, 48]).1, .sint .i64 (valR [49, 50, 46, 53, 48]).2]) := by kernel_rfl
theorem kDec1 : (runK prog pD2 60).call 29 [.str [50, 53, 47, 50]] (Bg 8) finV = some (.tuple [.sstr (decR [50, 53, 47, 50]).1, .sint .i64 (decR [50, 53, 47, 50]).2]) := by kernel_rfl
theorem kDec2 : (runK prog pD2 60).call 29 [.str [49, 47, 51]] (Bg 8) finV = some (.tuple [.sstr (decR [49, 47, 51]).1, .sint .i64 (decR [49, 47, 51]).2]) := by kernel_rfl
theorem kDec3 : (runK prog pD2 60).call 29 [.str [45, 55, 47, 52]] (Bg 8) finV = some (.tuple [.sstr (decR [45, 55, 47, 52]).1, .sint .i64 (decR [45, 55, 47, 52]).2]) := by kernel_rfl
theorem aw5 : (runK prog lib2 400).call 21 [.str txA] (Bg 8) finV = some rNor := by kernel_rfl
def tVal : List (List AV × AV) := [([.str [49, 50, 46, 53, 48]], rVal)]
def tDec : List (List AV × AV) := [([.str [50, 53, 47, 50]], rDec1), ([.str [49, 47, 51]], rDec2), ([.str [45, 55, 47, 52]], rDec3)]
def tNor : List (List AV × AV) := [([.str txA], rNor)]
def spS (t : List UInt8) : SP := ⟨[.is (.str t)], List.replicate 8 .dead⟩
def sqS (n : Nat) : SP := ⟨[.is (.tuple [.slice (some (8, 0)) n n, .int .i64 0, .int .i64 0])], List.replicate 8 .dead ++ [.any]⟩
def cellsA : AObj := .cells [.int .i64 0, .str [104, 111, 108, 101], .int .i64 0, .int .i64 0, .str [65], .int .i64 5, .int .i64 1, .str [50, 53], .int .i64 7, .int .i64 0, .str [72, 55], .int .i64 10, .int .i64 2, .str [47], .int .i64 12, .int .i64 0, .str [103, 54], .int .i64 13, .int .i64 3, .str [], .int .i64 15] 3 true 52
def cellsB : AObj := .cells [.int .i64 0, .str [97], .int .i64 0, .int .i64 2, .str [44], .int .i64 1, .int .i64 2, .str [40], .int .i64 3, .int .i64 0, .str [98], .int .i64 4, .int .i64 2, .str [44], .int .i64 5, .int .i64 0, .str [99], .int .i64 7, .int .i64 2, .str [41], .int .i64 8, .int .i64 2, .str [44], .int .i64 9, .int .i64 0, .str [100], .int .i64 11, .int .i64 3, .str [], .int .i64 12] 3 true 52
theorem aw6 : (runK prog lib2 400).call 18 [.str txA] (Bg 8) (finP (sqS 7) 8 []) = some [.o cellsA] := by kernel_rfl
theorem aw7 : (runK prog lib2 400).call 18 [.str txB] (Bg 8) (finP (sqS 10) 8 []) = some [.o cellsB] := by kernel_rfl
def sqE (i e : Int) : SP := ⟨[.is (.tuple [.slice none 0 0, .int .i64 i, .int .i64 e])], List.replicate 8 .dead⟩
theorem aw8 : (runK prog lib2 400).call 18 [.str [97, 32, 48, 49]] (Bg 8) (finP (sqE 2 3) 8 []) = some [] := by kernel_rfl
theorem aw9 : (runK prog lib2 400).call 18 [.str [97, 32, 63]] (Bg 8) (finP (sqE 2 4) 8 []) = some [] := by kernel_rfl
theorem aw10 : (runK prog lib2 400).call 18 [.str [51, 46]] (Bg 8) (finP (sqE 1 4) 8 []) = some [] := by kernel_rfl
def tScan : List (SP × SP × List Lf) := [(spS txA, sqS 7, [.o cellsA]), (spS txB, sqS 10, [.o cellsB]), (spS [97, 32, 48, 49], sqE 2 3, []), (spS [97, 32, 63], sqE 2 4, []), (spS [51, 46], sqE 1 4, [])]
theorem vr_res {ι : Emb} {s t : List UInt8} {m n : Int} (e : (s, m) = (t, n)) (x : Value) (h : VR ι (.tuple [.sstr s, .sint .i64 m]) x) : VR ι (.tuple [.str t, .int .i64 n]) x := by
 cases e
 refine vr_tup2 (fun v h => ?_) (fun v h => ?_) x h
 ·simpa only [VR] using h
 ·simpa only [VR] using h
theorem PrimOK.addtab2 {A : Amb} {prims prims0 : Prims} (hp0 : PrimOK prog A prims0) (hp : PrimOK prog A prims) (hG : prog.globals.size ≤ A.G) {f : FuncId} {tab : List (List AV × AV)} {fn : Func}
  (hf : prog.funcs[f]? = some fn) (hc : fn.body.isSome = true)
  (h : ∀ p, p ∈ tab → belowL 0 p.1 = true ∧ ∃ v', below 0 v' = true ∧ (∀ ι x, VR ι v' x → VR ι p.2 x) ∧ ∃ n, (runK prog prims0 n).call f p.1 (Bg prog.globals.size) finV = some v') : PrimOK prog A (prims.addt f (gTab tab)) := by
 refine PrimOK.addt3 hmix hnum hp hG hf hc fun args v hv => ?_
 unfold gTab at hv
 split at hv
 ·rename_i p hfind
  cases hv
  obtain ⟨h1, v', h2, h4, n, h3⟩ := h p (List.mem_of_find?_eq_some hfind)
  have he := sameL_eq (by simpa using List.find?_some hfind : sameL p.1 args = true)
  obtain ⟨B', hca⟩ := Ca.of_finV h3
  exact ⟨prims0, p.1, v', B', hp0, fun ι xs hx => by rw [he]; exact hx, h4, h1, h2, hca⟩
 ·cases hv
def pA1 : Prims := ((lib2.addt 27 (gTab tVal)).addt 29 (gTab tDec)).addt 21 (gTab tNor)
def pA : Prims := pA1.addh 18 (liftG 8 (closedP 8 tScan))
section
variable {A : Amb} (hT : Tab A) (hG : prog.globals.size ≤ A.G)
include hT hG
theorem pA_ok : PrimOK prog A pA := by
 have h0 := lib2_ok hT
 have hD := pD2_ok hT hG
 refine PrimOK.addl (PrimOK.addtab hmix hnum h0 (PrimOK.addtab2 hD (PrimOK.addtab2 hD h0 hG func27 (by kernel_rfl) ?_) hG func29 (by kernel_rfl) ?_) hG func21 (by kernel_rfl) ?_) gsz func18 (by kernel_rfl) (closedP_ok hmix hnum h0 ?_)
 ·intro p hp
  simp only [tVal, List.mem_cons, List.not_mem_nil, or_false] at hp
  subst hp
  exact ⟨rfl, _, rfl, fun ι x h => vr_res valA x h, 60, kVal⟩
 ·intro p hp
  simp only [tDec, List.mem_cons, List.not_mem_nil, or_false] at hp
  rcases hp with rfl | rfl | rfl
  ·exact ⟨rfl, _, rfl, fun ι x h => vr_res decA1 x h, 60, kDec1⟩
  ·exact ⟨rfl, _, rfl, fun ι x h => vr_res decA2 x h, 60, kDec2⟩
  ·exact ⟨rfl, _, rfl, fun ι x h => vr_res decA3 x h, 60, kDec3⟩
 ·intro p hp
  simp only [tNor, List.mem_cons, List.not_mem_nil, or_false] at hp
  subst hp
  exact ⟨rfl, rfl, 400, aw5⟩
 ·intro p hp
  simp only [tScan, List.mem_cons, List.not_mem_nil, or_false] at hp
  have fr : ∀ (a b : SP) (l : List Lf), a.h = List.replicate 8 .dead → a.t = [.is (a.rho []).head!] → (∃ r, b.heap l = Bg 8 ++ r) → frP [] 0 (a.heap []) (b.heap l) := fun a b l h1 h2 ⟨r, h3⟩ => by
   rw [h3]
   have : a.heap [] = Bg 8 := by unfold SP.heap; rw [h1, h2]; rfl
   rw [this]
   simp [frP, Bg, List.replicate]
  rcases hp with rfl | rfl | rfl | rfl | rfl
  ·exact ⟨rfl, rfl, rfl, fr _ _ _ rfl rfl ⟨[cellsA], rfl⟩, 400, aw6⟩
  ·exact ⟨rfl, rfl, rfl, fr _ _ _ rfl rfl ⟨[cellsB], rfl⟩, 400, aw7⟩
  ·exact ⟨rfl, rfl, rfl, fr _ _ _ rfl rfl ⟨[], rfl⟩, 400, aw8⟩
  ·exact ⟨rfl, rfl, rfl, fr _ _ _ rfl rfl ⟨[], rfl⟩, 400, aw9⟩
  ·exact ⟨rfl, rfl, rfl, fr _ _ _ rfl rfl ⟨[], rfl⟩, 400, aw10⟩
end
theorem awakeRun : (runK prog pA 400).call 12 [] (Bg 8) finV = some (.bool true) := by kernel_rfl
noncomputable def withAwake (prims : Prims) : Prims := prims.addt 12 (gTab [([], .bool true)])
theorem withAwake_ok {A : Amb} (hT : Tab A) (hG : prog.globals.size ≤ A.G) {prims : Prims} (hp : PrimOK prog A prims) : PrimOK prog A (withAwake prims) := by
 refine PrimOK.addtab hmix hnum (pA_ok hT hG) hp hG func12 (by kernel_rfl) fun p hp => ?_
 simp only [List.mem_cons, List.not_mem_nil, or_false] at hp
 subst hp
 exact ⟨rfl, rfl, 400, awakeRun⟩
end Go.Proofs.Tryz
namespace Go.Proofs.Tryz
open Go.Ad
open Go.Lib (decDigits itoa nDigits decFrom digitVal)
theorem short_len {x : List UInt8} (h : shortR x = true) : x.length ≤ 61 := by
 unfold shortR cutR at h
 rw [Bool.and_eq_true, decide_eq_true_eq, decide_eq_true_eq] at h
 cases hc : cutAt 47 x with
 | none => rw [hc] at h; simp only at h; omega
 | some p =>
  obtain ⟨n, d⟩ := p
  rw [hc] at h
  simp only at h
  obtain ⟨e, _⟩ := cutAt_some hc
  rw [e, List.length_append, List.length_cons]
  omega
theorem tab_laid {W : World} {a b : String × DataW Unit} {r : List (String × DataW Unit)} (h : laidMet prog (a :: b :: ("internal/strconv.uint64pow10", Lib.tabData .u64 Lib.pow10Tab) :: r) W) :
  Lib.TabIs prog W "internal/strconv.uint64pow10" .u64 Lib.pow10Tab :=
 Lib.tabIs_of_head (g := 5) (t := 228) (e := 169) (n := 20) (by kernel_rfl) (by kernel_rfl) (by kernel_rfl) (by kernel_rfl) (by kernel_rfl) (by kernel_rfl) (laidVars_tail (laidVars_tail h))
end Go.Proofs.Tryz
namespace Go.Proofs.Tryz
open Go.Ad
open Go.Lib (decDigits itoa nDigits decFrom digitVal)
noncomputable def pSc18 : Prims := pT.addh 18 (liftG 8 (funQ spTxt 8 [] TSc))
theorem pSc18_ok {A : Amb} (hT : Tab A) (hG : prog.globals.size ≤ A.G) : PrimOK prog A pSc18 := by
 refine (pT_ok hT hG).addl gsz func18 (by kernel_rfl) (funQ_ok hmix hnum rfl fun ls sq l h => ?_)
 unfold TSc at h
 split at h
 ·rename_i s
  cases h
  obtain ⟨l0, h1, h2⟩ := scan_wk (A := A) s
  exact ⟨⟨.inr rfl, .inr rfl, .inr rfl, .inr rfl, .inr rfl, .inr rfl, .inr rfl, .inr rfl, trivial⟩, rfl, pS18, 60, l0, pS18_ok hT hG, (run18 s).trans h1, h2⟩
 ·cases h
noncomputable abbrev pLd : Prims := withAwake (pE3.over pSc18)
theorem pLd_ok {A : Amb} (hT : Tab A) (hG : prog.globals.size ≤ A.G) : PrimOK prog A pLd := withAwake_ok hT hG ((pE3_ok hT hG).over (pSc18_ok hT hG))
noncomputable abbrev posK (d x : List UInt8) : Option Unit := brK ((valR (absT d)).2 == 0) (brK ((valR (absT d)).1 == x) (some ()) none) none
noncomputable abbrev negK (d x : List UInt8) (L : List Tok) (e : Int) : Option Unit :=
 brK (propB (L.length = 3 ∧ L.length = 3 ∧ isNegF (rowsT L))) (brK (W (W ((valR (absT d)).2 + e) + 0) == 0) (brK ((negQ (valR (tkN (rowsT L))).1).1 == x) (some ()) none) none) none
noncomputable abbrev part2 (x d : List UInt8) : Option Unit :=
 brK (decide (x.length ≤ 900)) (brK ((decR x).2 != 0) (some ()) (brK (decide ((d.length : Int) > 24)) (some ()) (brK (szOK (absT d)) (brK (decide ((d.length : Int) ≥ 1)) (brK (decide ((0 : Int) ≤ 1 ∧ (1 : Int) ≤ (d.length : Int)) && true)
  (brK ((d.take 1).drop 0 == [45]) (negK d x (scanR d).1 (scanR d).2.2) (posK d x)) none) (posK d x)) none))) none
noncomputable abbrev cmpK (v t x : List UInt8) : Option Unit := brK ((decR v).2 != 0) none (brK (!((decR v).1 == t)) none (part2 x (decR x).1))
abbrev sufK (u : List UInt8) (k : List UInt8 → Option Unit) : Option Unit :=
 brK (decide ((u.length : Int) ≥ 1)) (brK (true && decide (0 ≤ W ((u.length : Int) - 1) ∧ W ((u.length : Int) - 1) ≤ (u.length : Int))) (brK ((u.take u.length).drop (W ((u.length : Int) - 1)).toNat == [46])
  (brK (decide (0 ≤ W ((u.length : Int) - 1) ∧ W ((u.length : Int) - 1) ≤ (u.length : Int)) && true) (k ((u.take (W ((u.length : Int) - 1)).toNat).drop 0)) none) (k u)) none) (k u)
theorem digitsTree (s x : List UInt8) : (runK prog pLd 60).call 11 [.sstr s, .sstr x] (Bg 8) goodK =
  brK (decide ((s.length : Int) > 200)) (some ()) (brK (szOK x) (brK (!shortR x) (some ()) (brK (szOK s) (brK ((valR s).2 == 0) (brK (decide ((valR s).1.length ≤ 900)) (brK (decide (Lib.indexByte s 46 ≥ 0))
   (brK (s == []) (sufK s fun t => cmpK (valR s).1 t x) (brK (szOK s) (sufK (trimR s) fun t => cmpK (valR s).1 t x) none)) (cmpK (valR s).1 s x)) none) (part2 x (decR x).1)) none)) none) := by kernel_rfl
theorem sufK_eq {u : List UInt8} (k : List UInt8 → Option Unit) (h : u.length < 2 ^ 62) : sufK u k = k (sufT u) := by
 rcases List.eq_nil_or_concat u with rfl | ⟨l, c, rfl⟩
 ·rfl
 ·rw [List.concat_eq_append] at *
  have hl : (l ++ [c]).length = l.length + 1 := by simp
  have e1 : W (((l ++ [c]).length : Int) - 1) = (l.length : Int) := by rw [W_id (by omega) (by omega)]; omega
  unfold sufK
  rw [e1, decide_eq_true (show ((l ++ [c]).length : Int) ≥ 1 by omega), decide_eq_true (show 0 ≤ (l.length : Int) ∧ (l.length : Int) ≤ ((l ++ [c]).length : Int) by omega), Int.toNat_natCast, List.take_length, List.drop_left' rfl, List.take_left' rfl, List.drop_zero, brK_t]
  show brK ([c] == [46]) (k l) (k (l ++ [c])) = _
  unfold sufT
  rw [List.getLast?_concat, List.dropLast_concat]
  by_cases hc : c = 46
  ·subst hc; rfl
  ·rw [show ([c] == [46]) = false by rw [beq_eq_false_iff_ne]; exact fun e => hc (by simpa using e), if_neg (by simpa using hc)]; rfl
theorem scan_neg {u : List UInt8} (h : errN u = 0) (hl : u.length ≤ 24) : scanR (45 :: u) = (Lneg u ((u.length + 1 : Nat) : Int), 0, 0) := by
 have g1 : Gd (2, [45], 0) := .inr (.inr ⟨rfl, rfl, by decide⟩)
 have g2 : Gd (1, u, 1) := .inr (.inl ⟨rfl, h⟩)
 have h1 := scan_tok (S := 45 :: u) (a := 0) (t := (2, [45], 0)) (r := u) g1 rfl (.inr (by show (((2 : Int) == 0) && _ || ((2 : Int) == 1) && _) = false; rfl)) []
 have h2 := scan_tok (S := 45 :: u) (a := 1) (t := (1, u, 1)) (r := []) g2 (by rw [List.append_nil]; rfl) (.inl rfl) [(2, [45], 0)]
 have hS : scanS (45 :: u) (45 :: u).length 0 [] = .inr [(2, [45], 0), (1, u, 1)] := by
  refine h1.trans (h2.trans ?_)
  rw [show (45 :: u).length - (1 + u.length) = 0 by rw [List.length_cons]; omega]
  rfl
 have hb : scB (45 :: u) = false := by unfold scB; rw [hS]
 have hL : scL (45 :: u) = [(2, [45], 0), (1, u, 1)] := by unfold scL; rw [hS]
 unfold scanR scT
 rw [decide_eq_true (show (45 :: u).length ≤ 4096 by rw [List.length_cons]; omega), hb, hL]
 rfl
theorem part2_ok {x : List UInt8} (hx : x.length ≤ 61) : part2 x (decR x).1 = some () := by
 unfold part2
 rw [decide_eq_true (show x.length ≤ 900 by omega), brK_t]
 by_cases h0 : errQ x = 0
 ·obtain ⟨e1, e2, e3, e4⟩ := errQ_ok h0
  have hxt := ratT_of h0
  have hdec : decR x = if strip 5 (strip 2 (dvalZ (cutR x).2.1).toNat) ≠ 1 then ([], 14) else (decT (dvalZ (cutR x).1) (dvalZ (cutR x).2.1).toNat, 0) := by unfold decR; rw [if_neg (by simpa using h0)]
  generalize dvalZ (cutR x).1 = n at *
  generalize dvalZ (cutR x).2.1 = D' at *
  obtain ⟨D, rfl⟩ : ∃ D : Nat, D' = D := ⟨D'.toNat, by omega⟩
  rw [Int.toNat_natCast] at hdec
  by_cases hs : strip 5 (strip 2 D) = 1
  ·rw [if_neg (by simpa using hs)] at hdec
   rw [hdec]
   dsimp only
   rw [show ((0 : Int) != 0) = false from rfl, brK_f]
   by_cases hl : (decT n D).length > 24
   ·rw [decide_eq_true (show ((decT n D).length : Int) > 24 by omega)]; rfl
   ·rw [decide_eq_false (show ¬ ((decT n D).length : Int) > 24 by omega), brK_f]
    obtain ⟨u, hu⟩ : ∃ u, u = itoa ((n.natAbs / D : Nat) : Int) ++ fracT D (n.natAbs % D) := ⟨_, rfl⟩
    have hd : decT n D = (if n < 0 then [45] else []) ++ u := by unfold decT; rw [hu]
    have hg : Nat.gcd n.natAbs D = 1 := by
     have : Int.gcd n (D : Int) = Nat.gcd n.natAbs D := rfl
     omega
    have hun : u ≠ [] := by
     rw [hu]
     intro e
     exact itoa_ne _ (List.append_eq_nil_iff.1 e).1
    have hhead : ∃ c r, u = c :: r ∧ c ≠ 45 := by
     cases hh : itoa ((n.natAbs / D : Nat) : Int) with
     | nil => exact (itoa_ne _ hh).elim
     | cons c r =>
      refine ⟨c, r ++ fracT D (n.natAbs % D), by rw [hu, hh]; rfl, fun e => ?_⟩
      have := itoaN_all (n.natAbs / D)
      rw [hh, e, List.all_cons, Bool.and_eq_true] at this
      exact absurd this.1 (by decide)
    obtain ⟨c, r, hcr, hc45⟩ := hhead
    have hul : u.length ≤ 24 := by rw [hd, List.length_append] at hl; omega
    obtain ⟨v1, v2⟩ := read_val (N := n.natAbs) (D := D) (by omega) hg hs hu hul
    rw [hd]
    by_cases hn : n < 0
    ·rw [if_pos hn]
     have ha : absT ([45] ++ u) = u := by show absT (45 :: u) = u; rw [absT_cons, if_pos rfl]
     have hsc := scan_neg v1 hul
     have hlu : ([45] ++ u : List UInt8).length = u.length + 1 := by rw [List.length_append, List.length_singleton]; omega
     have g1 : ((([45] ++ u : List UInt8).length : Nat) : Int) ≥ 1 := by omega
     have g2 : (0 : Int) ≤ 1 ∧ (1 : Int) ≤ ((([45] ++ u : List UInt8).length : Nat) : Int) := by omega
     rw [ha, show szOK u = true from decide_eq_true (by omega), decide_eq_true g1, decide_eq_true g2]
     show brK true (brK true (negK (45 :: u) x (scanR (45 :: u)).1 (scanR (45 :: u)).2.2) _) none = _
     unfold negK
     rw [hsc, show absT (45 :: u) = u from ha, v2, propB_true ⟨rfl, rfl, u, _, v1, rfl⟩, tkN_rows, v2]
     have hq : errQ (ratT (n.natAbs : Int) (D : Int)) = 0 := by
      have := (val_right v1).1
      rwa [v2] at this
     have hneg : (negQ (ratT (n.natAbs : Int) (D : Int))).1 = x := by
      have hc := cutR_ratT (n.natAbs : Int) (D : Int)
      unfold negQ
      rw [if_neg (by rw [hq]; simp), hc.1, hc.2, dvalZ_itoa, dvalZ_itoa, hxt]
      show ratT (-(n.natAbs : Int)) (D : Int) = _
      rw [show -(n.natAbs : Int) = n by omega]
     dsimp only
     rw [hneg, show (x == x) = true by simp]
     rfl
    ·rw [if_neg hn, List.nil_append]
     have ha : absT u = u := by rw [hcr, absT_cons, if_neg hc45]
     have htk : ((u.take 1).drop 0 == [45]) = false := by
      rw [hcr, beq_eq_false_iff_ne]
      intro e
      exact hc45 (by simpa using e)
     have hp : posK u x = some () := by
      unfold posK
      rw [ha, v2, show ratT (n.natAbs : Int) (D : Int) = x by rw [hxt, show (n.natAbs : Int) = n by omega]]
      simp [brK]
     have hlen : 1 ≤ u.length := by rw [hcr]; simp
     rw [ha, show szOK u = true from decide_eq_true (by omega), decide_eq_true (show (u.length : Int) ≥ 1 by omega), decide_eq_true (show (0 : Int) ≤ 1 ∧ (1 : Int) ≤ (u.length : Int) by omega), htk, hp]
     rfl
  ·rw [if_pos (by simpa using hs)] at hdec
   rw [hdec]; rfl
 ·have : (decR x).2 = errQ x := by unfold decR; rw [if_pos h0]
  rw [this, show (errQ x != 0) = true by simpa using h0]; rfl
theorem lexerDigits (b c : ByteArray) (W : World) (hc : c.data.toList.length < 2 ^ 62) (hG : prog.globals.size ≤ W.heap.size) (hT : Tab (ambOf W)) :
  Calls prog 11 #[.string b, .string c] W fun e W' => e = .returned (.bool true) ∧ RowKit.Below W.heap.size W W' := by
 refine law_of_K hmix hnum (pLd_ok hT hG) hG (n := 60) (args := [.sstr b.data.toList, .sstr c.data.toList]) ?_ rfl (iotaG 8) _ ?_
 ·rw [gsz]
  refine (digitsTree _ _).trans ?_
  generalize b.data.toList = s
  generalize c.data.toList = x at *
  have hx : szOK x = true := decide_eq_true hc
  rw [hx, brK_t]
  by_cases h : s.length > 200
  ·rw [decide_eq_true (show (s.length : Int) > 200 by omega)]; rfl
  ·have hs : szOK s = true := decide_eq_true (by omega)
   rw [decide_eq_false (show ¬ (s.length : Int) > 200 by omega), brK_f, hs]
   cases hsh : shortR x with
   | false => rfl
   | true =>
    have hp2 := part2_ok (short_len hsh)
    rw [hp2]
    by_cases h0 : errN s = 0
    ·obtain ⟨f, b', hn⟩ := num_shape h0
     obtain ⟨hd, hl⟩ := digits_law h0 hn
     have hv := (val_right h0).2.2.2
     have hcmp : cmpK (valR s).1 (f ++ (if trimR b' = [] then [] else 46 :: trimR b')) x = some () := by
      unfold cmpK
      rw [hd, hp2]
      simp [brK]
     rw [hv, decide_eq_true hl]
     rcases hn.shape with ⟨e1, e2⟩ | ⟨e1, e2⟩
     ·have hi : Lib.indexByte s 46 = -1 := by
       rcases cutAt_index 46 s with ⟨i1, _⟩ | ⟨i, _, _, i2⟩
       ·exact i1
       ·rw [cutAt_none (by rw [e1]; exact no_point hn.df)] at i2; cases i2
      rw [e2, if_pos (show trimR [] = [] from rfl), List.append_nil, ← e1] at hcmp
      rw [hi, hcmp]; rfl
     ·have hi : decide (Lib.indexByte s 46 ≥ 0) = true := by
       rcases cutAt_index 46 s with ⟨_, i2⟩ | ⟨i, _, i1, _⟩
       ·rw [e1, cutAt_mk (no_point hn.df)] at i2; cases i2
       ·rw [i1]; exact decide_eq_true (by omega)
      have hne : (s == []) = false := by rw [e1]; cases f <;> rfl
      have hz : (trimR s).length < 2 ^ 62 := by
       obtain ⟨j, hj⟩ := trimR_zeros s
       have := congrArg List.length hj
       rw [List.length_append] at this
       omega
      rw [hi, hne, sufK_eq _ hz, norm_point e1 hn.db, hcmp]; rfl
    ·have : (valR s).2 = errN s := by unfold valR; rw [if_pos h0]
     rw [this, show (errN s == 0) = false by simpa using h0]; rfl
 ·simp only [VRL, VR]
  exact ⟨_, _, rfl, ⟨b, rfl, rfl⟩, _, _, rfl, ⟨c, rfl, rfl⟩, rfl⟩
end Go.Proofs.Tryz
