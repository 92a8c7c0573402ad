/- The reference's numbers: short numbers, ints as texts, opposite numbers. -/
import Derived.Test.YtfjgehlpjppggaaGreatDoorR3
namespace Go.Proofs.Tryz
open Go.Ad
open Go.Lib (decDigits itoa nDigits decFrom digitVal)
def zOK (a : List UInt8) : Prop := isZ a ∧ a.length < 2 ^ 26
theorem zOK_itoa {Z : Int} {k : Nat} (h : Z.natAbs < 10 ^ k) (hk : k < 2 ^ 25) (h1 : 1 ≤ k) : zOK (itoa Z) := by
 refine ⟨isZ_itoa Z, ?_⟩
 have h2 := itoa_len Z
 have h3 := dec_len_lt h h1
 omega
noncomputable def code153 : Code := f153.body.getD .skip
noncomputable def bodyNu : Code := unLoop (findB 0 code153)
def spNu : SP := ⟨[.str] ++ dr 2 ++ [.int .i64, .str, .int .i64] ++ dr 21, dd8⟩
def lfNu (a : List UInt8) (n : Int) (s : List UInt8) (i : Int) : List Lf := [.s a, .i n, .s s, .i i]
theorem roundNu (a : List UInt8) (n : Int) (s : List UInt8) (i : Int) : execK prog (runK prog lib2 60) noBps bodyNu (spNu.rho (lfNu a n s i)) (spNu.heap (lfNu a n s i)) (nrmP (fun _ => spNu) 8 []) =
  brK (decide (i < (s.length : Int))) (brK (decide (0 ≤ i ∧ i < (s.length : Int))) (some (.normal, lfNu a (W (W (10 * n) + W (IntKind.u8.wrap (((s.getD i.toNat 0).toNat : Int) - 48)))) s (W (i + 1)))) none) (some (.exit 0, lfNu a n s i)) := by kernel_rfl
theorem digW_take_lt {s : List UInt8} (h : s.all isDg = true) (i : Nat) : digW 0 (s.take i) < 10 ^ i := by
 have h1 : (s.take i).all isDg = true := by
  rw [List.all_eq_true] at h ⊢
  exact fun b hb => h b (List.mem_of_mem_take hb)
 have := digW_lt _ h1
 refine Nat.lt_of_lt_of_le this (Nat.pow_le_pow_right (by decide) ?_)
 rw [List.length_take]; omega
theorem stepNu {a s : List UInt8} {i : Nat} (hs : s.all isDg = true) (ls : s.length ≤ 18) (hi : i < s.length) :
  execK prog (runK prog lib2 60) noBps bodyNu (spNu.rho (lfNu a (digW 0 (s.take i) : Nat) s i)) (spNu.heap (lfNu a (digW 0 (s.take i) : Nat) s i)) (nrmP (fun _ => spNu) 8 []) = some (.normal, lfNu a (digW 0 (s.take (i + 1)) : Nat) s (i + 1 : Nat)) := by
 have h1 := digW_take_lt hs i
 have h2 : 10 ^ i ≤ 10 ^ 17 := Nat.pow_le_pow_right (by decide) (by omega)
 have h3 := dg_le hs i
 have e1 : (10 : Int) * ((digW 0 (s.take i) : Nat) : Int) = ((digW 0 (s.take i) * 10 : Nat) : Int) := by omega
 rw [roundNu, Int.toNat_natCast, dgI hs hi, e1, W_nat (n := digW 0 (s.take i) * 10) (by omega), W_nat (n := dg s i) (by omega), ← Int.natCast_add, ← take_step hi, W_nat (n := digW 0 (s.take (i + 1))) (by rw [take_step hi]; omega),
  W_id (by omega) (by omega), decide_eq_true (show (i : Int) < (s.length : Int) by omega), decide_eq_true (show 0 ≤ (i : Int) ∧ (i : Int) < (s.length : Int) by omega)]
 rfl
noncomputable def hookNu : Blk := hookP spNu 8 [] fun
 | [.s a, .i n, .s s, .i i] => .br (propB (n = 0 ∧ i = 0 ∧ s.all isDg = true ∧ s.length ≤ 18)) (.leaf (.normal, spNu, lfNu a (digW 0 s : Nat) s s.length)) .fail
 | _ => .fail
noncomputable def pR10b : Prims := pR9.addb 153 0 hookNu
theorem run153 (a : List UInt8) : (runK prog pR10b 60).call 153 [.sstr a] (Bg 8) finV =
  brK (propB ((0 : Int) = 0 ∧ (0 : Int) = 0 ∧ (absT a).all isDg = true ∧ (absT a).length ≤ 18)) (brK (propB (isZ a)) (brK (decide (dvalZ a < 0)) (some (.sint .i64 (W (0 - (digW 0 (absT a) : Nat))))) (some (.sint .i64 (digW 0 (absT a) : Nat)))) none) none := by kernel_rfl
noncomputable def T153 : List Lf → Tr AV
 | [.s a] => .br (propB (isZ a ∧ (absT a).length ≤ 18)) (.leaf (.sint .i64 (dvalZ a))) .fail
 | _ => .fail
noncomputable def pR10 : Prims := pR9.addt 153 (gP [.str] T153)
theorem isZ_abs {a : List UInt8} (h : isZ a) : absT a = itoa ((dvalZ a).natAbs : Nat) := by
 unfold isZ at h
 have := absT_itoa (dvalZ a)
 rw [← h] at this
 rw [itoaN]; exact this
section
variable {A : Amb} (hT : Tab A) (hG : prog.globals.size ≤ A.G)
include hT hG
theorem pR10b_ok : PrimOK prog A pR10b := by
 have hp := lib2_ok hT
 refine PrimOK.addbP (pR9_ok hT hG) func153 (show f153.body = some code153 by kernel_rfl) (body := .loop bodyNu) (by kernel_rfl) (by kernel_rfl) fun ls e sq l h => ?_
 split at h
 ·rename_i a n s i
  obtain ⟨hc, hv⟩ := Tr.br1 h
  cases hv
  obtain ⟨rfl, rfl, hs, ls⟩ := propB_eq hc
  refine ⟨⟨.inr rfl, .inr rfl, .inr rfl, .inr rfl, .inr rfl, .inr rfl, .inr rfl, .inr rfl, trivial⟩, fun Bb hB => SEB.block_exit (id := 0) ?_⟩
  have e0 : ([.s a, .i 0, .s s, .i 0] : List Lf) = lfNu a (digW 0 (s.take 0) : Nat) s (0 : Nat) := rfl
  have e1 : lfNu a (digW 0 s : Nat) s s.length = lfNu a (digW 0 (s.take s.length) : Nat) s s.length := by rw [List.take_length]
  rw [e0, e1]
  refine SEB.loop_nat (A := A) (B0 := Bb) (c := bodyNu) (I := fun j => ⟨spNu.rho (lfNu a (digW 0 (s.take j) : Nat) s j), spNu.heap (lfNu a (digW 0 (s.take j) : Nat) s j), []⟩) (N := s.length) (fun j hj => SEB.of_KP (A := A) (B0 := Bb) (e := .normal) hmix hnum hp (.none _) hB (stepNu hs ls hj) rfl) ?_ (by simp) (i := 0) (Nat.zero_le _)
  have hr := roundNu a (digW 0 (s.take s.length) : Nat) s s.length
  rw [decide_eq_false (show ¬ (s.length : Int) < (s.length : Int) by omega)] at hr
  exact SEB.of_KP (A := A) (B0 := Bb) (e := .exit 0) hmix hnum hp (.none _) hB hr rfl
 ·cases h
theorem pR10_ok : PrimOK prog A pR10 := by
 refine PrimOK.addP hmix hnum (pR10b_ok hT hG) (pR9_ok hT hG) hG func153 (by kernel_rfl) fun ls v h => ?_
 unfold T153 at h
 split at h
 ·rename_i a
  obtain ⟨hc, hv⟩ := Tr.br1 h
  cases hv
  obtain ⟨hz, hl⟩ := propB_eq hc
  refine ⟨rfl, 60, .sint .i64 (dvalZ a), ?_, rfl, fun ι x h => h⟩
  rw [gsz]
  refine (run153 a).trans ?_
  have ha := isZ_abs hz
  have hall : (absT a).all isDg = true := by rw [ha]; exact itoaN_all _
  have hlt := digW_lt _ hall
  have h18 : 10 ^ (absT a).length ≤ 10 ^ 18 := Nat.pow_le_pow_right (by decide) hl
  have hv : digW 0 (absT a) = (dvalZ a).natAbs := by rw [ha, digW_itoa]
  rw [propB_true ⟨rfl, rfl, hall, hl⟩, propB_true hz]
  rw [hv] at hlt ⊢
  by_cases h0 : dvalZ a < 0
  ·rw [decide_eq_true h0, W_id (by omega) (by omega), show (0 : Int) - ((dvalZ a).natAbs : Nat) = dvalZ a by omega]; rfl
  ·rw [decide_eq_false h0, show (((dvalZ a).natAbs : Nat) : Int) = dvalZ a by omega]; rfl
 ·cases h
end
theorem run143 (a : List UInt8) : (runK prog pR10 60).call 143 [.sstr a] (Bg 8) finV = brK (propB (isZ a)) (brK (decide (1 + (absT a).length < 4611686018427387904)) (some (.sstr (sgnT (absT a) (!(decide (dvalZ a < 0)))))) none) none := by kernel_rfl
theorem sgnT_sv (V : Nat) (m : Bool) : sgnT (itoa (V : Int)) m = itoa (sv m V) := by
 unfold sgnT
 cases m with
 | false => rfl
 | true =>
  rw [itoa_is0, Bool.true_and, sv_t]
  by_cases h : (V : Int) = 0
  ·rw [decide_eq_true h, h]; rfl
  ·rw [decide_eq_false h]
   show 45 :: itoa (V : Int) = itoa (-(V : Int))
   rw [itoaN]
   unfold itoa
   rw [if_pos (by omega), Int.natAbs_neg, Int.natAbs_natCast]
noncomputable def T143 : List Lf → Tr AV
 | [.s a] => .br (propB (zOK a)) (.leaf (.sstr (itoa (-(dvalZ a))))) .fail
 | _ => .fail
noncomputable def pR11 : Prims := pR10.addt 143 (gP [.str] T143)
theorem neg_sv (Z : Int) : sv (!(decide (Z < 0))) Z.natAbs = -Z := by
 by_cases h : Z < 0
 ·rw [decide_eq_true h]; show ((Z.natAbs : Nat) : Int) = _; omega
 ·rw [decide_eq_false h]; show -((Z.natAbs : Nat) : Int) = _; omega
theorem pR11_ok {A : Amb} (hT : Tab A) (hG : prog.globals.size ≤ A.G) : PrimOK prog A pR11 := by
 refine PrimOK.addP hmix hnum (pR10_ok hT hG) (pR10_ok hT hG) hG func143 (by kernel_rfl) fun ls v h => ?_
 unfold T143 at h
 split at h
 ·rename_i a
  obtain ⟨hc, hv⟩ := Tr.br1 h
  cases hv
  obtain ⟨hz, hl⟩ := propB_eq hc
  refine ⟨rfl, 60, .sstr (itoa (-(dvalZ a))), ?_, rfl, fun ι x h => h⟩
  rw [gsz]
  refine (run143 a).trans ?_
  have hle := (absT_len1 a).1
  rw [propB_true hz, decide_eq_true (show 1 + (absT a).length < 4611686018427387904 by omega), isZ_abs hz, sgnT_sv, neg_sv]
  rfl
 ·cases h
noncomputable def code101 : Code := f101.body.getD .skip
noncomputable def bodyOf : Code := unLoop (findB 0 code101)
def spOf : SP := ⟨[.int .i64] ++ dr 2 ++ [.str] ++ dr 33, dd8⟩
theorem roundOf (n : Int) (s : List UInt8) : execK prog (runK prog pR11 60) noBps bodyOf (spOf.rho [.i n, .s s]) (spOf.heap [.i n, .s s]) (nrmP (fun _ => spOf) 8 []) =
  brK (decide (n > 9)) (brK (decide (1 + s.length < 4611686018427387904)) (some (.normal, [.i (W (n.tdiv 10)), .s (UInt8.ofNat (IntKind.u8.wrap (W (48 + n.tmod 10))).toNat :: s)])) none) (some (.exit 0, [.i n, .s s])) := by kernel_rfl
theorem stepOf {n : Nat} {s : List UInt8} (hn : n < 2 ^ 63) (hs : n > 9 → s.length < 100) : execK prog (runK prog pR11 60) noBps bodyOf (spOf.rho [.i n, .s s]) (spOf.heap [.i n, .s s]) (nrmP (fun _ => spOf) 8 []) =
  if n > 9 then some (.normal, [.i (n / 10 : Nat), .s (dig n :: s)]) else some (.exit 0, [.i n, .s s]) := by
 rw [roundOf]
 by_cases h : n > 9
 ·have hs := hs h
  have e3 : ((n : Int)).tdiv 10 = ((n / 10 : Nat) : Int) := by rw [Int.tdiv_eq_ediv_of_nonneg (Int.natCast_nonneg _)]; rfl
  have e4 : ((n : Int)).tmod 10 = ((n % 10 : Nat) : Int) := by rw [Int.tmod_eq_emod_of_nonneg (Int.natCast_nonneg _)]; rfl
  have e5 : (48 : Int) + ((n % 10 : Nat) : Int) = ((48 + n % 10 : Nat) : Int) := by omega
  rw [if_pos h, decide_eq_true (show (n : Int) > 9 by omega), decide_eq_true (show 1 + s.length < 4611686018427387904 by omega), e3, e4, e5, W_nat (n := n / 10) (by omega), W_nat (n := 48 + n % 10) (by omega), wrap8_nat (n := 48 + n % 10) (by omega), Int.toNat_natCast]
  rfl
 ·rw [if_neg h, decide_eq_false (show ¬ (n : Int) > 9 by omega)]; rfl
def topD (n : Nat) : Nat := ((decDigits n).headD 0).toNat - 48
def lowD (n : Nat) : List UInt8 := (decDigits n).tail
noncomputable def hookOf : Blk := hookP spOf 8 [] fun
 | [.i n, .s s] => .br (propB (0 ≤ n ∧ n < 2 ^ 63 ∧ s = [])) (.leaf (.normal, spOf, [.i (topD n.toNat : Nat), .s (lowD n.toNat)])) .fail
 | _ => .fail
theorem topD_big {n : Nat} (h : n > 9) : topD n = topD (n / 10) ∧ lowD n = lowD (n / 10) ++ [dig n] := by
 unfold topD lowD
 rw [dec_big (by omega)]
 have hne := dec_ne (n / 10)
 cases hh : decDigits (n / 10) with
 | nil => exact (hne hh).elim
 | cons b r => exact ⟨rfl, rfl⟩
theorem topD_small {n : Nat} (h : ¬ n > 9) : topD n = n ∧ lowD n = [] := by
 unfold topD lowD
 rw [dec_small (by omega)]
 refine ⟨?_, rfl⟩
 show (dig n).toNat - 48 = n
 rw [dig_toNat]; omega
theorem topD_text (n : Nat) : UInt8.ofNat (48 + topD n) :: lowD n = decDigits n ∧ topD n ≤ 9 := by
 unfold topD lowD
 cases hh : decDigits n with
 | nil => exact (dec_ne n hh).elim
 | cons b r =>
  have hb := dec_digit n b (by rw [hh]; simp)
  have : 48 + (((b :: r).headD 0).toNat - 48) = b.toNat := by show 48 + (b.toNat - 48) = _; omega
  rw [this]
  refine ⟨by rw [UInt8.ofNat_toNat]; rfl, ?_⟩
  show b.toNat - 48 ≤ 9
  omega
noncomputable def pR12b : Prims := pR11.addb 101 0 hookOf
section
variable {A : Amb} (hT : Tab A) (hG : prog.globals.size ≤ A.G)
include hT hG
theorem hookOf_ok : ∀ ρ B e' ρ' B' D, (hookOf ρ B).get = some (e', ρ', B', D) → AFr B B' D ∧ SEB prog A B (.block 0 (.loop bodyOf)) ⟨ρ, B, []⟩ e' ⟨ρ', B', D⟩ := by
 have hp := pR11_ok hT hG
 refine hookP_ok rfl fun ls e sq l h => ?_
 split at h
 ·rename_i n s
  obtain ⟨hc, hv⟩ := Tr.br1 h
  cases hv
  obtain ⟨h0, h1, rfl⟩ := propB_eq hc
  obtain ⟨n, rfl⟩ := Int.eq_ofNat_of_zero_le h0
  rw [Int.toNat_natCast]
  refine ⟨⟨.inr rfl, .inr rfl, .inr rfl, .inr rfl, .inr rfl, .inr rfl, .inr rfl, .inr rfl, trivial⟩, fun Bb hB => SEB.block_exit (id := 0) ?_⟩
  have key := SEB.while (P := prog) (A := A) (B0 := Bb) (c := bodyOf) (fun s : Nat × List UInt8 => s.1 * 10 ^ s.2.length < 2 ^ 63) (fun s => s.1) (fun s => ⟨spOf.rho [.i s.1, .s s.2], spOf.heap [.i s.1, .s s.2], []⟩)
   (fun s => (.exit 0, ⟨spOf.rho [.i (topD s.1 : Nat), .s (lowD s.1 ++ s.2)], spOf.heap [.i (topD s.1 : Nat), .s (lowD s.1 ++ s.2)], []⟩)) (fun s hs => ?_) (n, []) (by simp only [List.length_nil, Nat.pow_zero, Nat.mul_one]; omega)
  ·simp only [List.append_nil] at key
   exact key
  ·obtain ⟨m, t⟩ := s
   simp only at hs
   have hm : m < 2 ^ 63 := Nat.lt_of_le_of_lt (by have := Nat.mul_le_mul_left m (Nat.pow_pos (n := t.length) (show 0 < 10 by decide)); omega) hs
   have hlen : m > 9 → t.length < 100 := fun hz => by
    rcases Nat.lt_or_ge t.length 100 with h2 | h2
    ·exact h2
    ·exfalso
     have h3 : 10 ^ 20 ≤ 10 ^ t.length := Nat.pow_le_pow_right (by decide) (by omega)
     have h4 := Nat.mul_le_mul (show 1 ≤ m by omega) h3
     omega
   have hk := stepOf hm hlen (s := t)
   by_cases h9 : m > 9
   ·rw [if_pos h9] at hk
    left
    refine ⟨(m / 10, dig m :: t), ?_, by simp only; omega, ?_, SEB.of_KP (A := A) (B0 := Bb) (e := .normal) hmix hnum hp (.none _) hB hk rfl⟩
    ·simp only [List.length_cons, Nat.pow_succ]
     refine Nat.lt_of_le_of_lt ?_ hs
     rw [Nat.mul_comm (10 ^ t.length) 10, ← Nat.mul_assoc]
     exact Nat.mul_le_mul_right _ (Nat.div_mul_le_self _ _)
    ·obtain ⟨t1, t2⟩ := topD_big h9
     simp only [t1, t2, List.append_assoc, List.singleton_append]
   ·rw [if_neg h9] at hk
    obtain ⟨t1, t2⟩ := topD_small h9
    right
    refine ⟨by simp, ?_⟩
    simp only [t1, t2, List.nil_append]
    exact SEB.of_KP (A := A) (B0 := Bb) (e := .exit 0) hmix hnum hp (.none _) hB hk rfl
 ·cases h
theorem pR12b_ok : PrimOK prog A pR12b :=
 (pR11_ok hT hG).addb func101 (show f101.body = some code101 by kernel_rfl) (by kernel_rfl) (hookOf_ok hT hG)
end
theorem run101 (n : Int) : (runK prog pR12b 60).call 101 [.rng .i64 n 0 9223372036854775807] (Bg 8) finV =
  brK (n == 0 - n) (brK (n != 0) (some (.str [45, 57, 50, 50, 51, 51, 55, 50, 48, 51, 54, 56, 53, 52, 55, 55, 53, 56, 48, 56])) (brK (propB (0 ≤ n ∧ n < 2 ^ 63 ∧ ([] : List UInt8) = [])) (brK (decide (1 + (lowD n.toNat).length < 4611686018427387904))
   (some (.sstr (UInt8.ofNat (IntKind.u8.wrap (W (48 + (topD n.toNat : Nat)))).toNat :: lowD n.toNat))) none) none))
   (brK (propB (0 ≤ n ∧ n < 2 ^ 63 ∧ ([] : List UInt8) = [])) (brK (decide (1 + (lowD n.toNat).length < 4611686018427387904))
   (some (.sstr (UInt8.ofNat (IntKind.u8.wrap (W (48 + (topD n.toNat : Nat)))).toNat :: lowD n.toNat))) none) none) := by kernel_rfl
theorem run101_eq {n : Int} (h0 : 0 ≤ n) (h1 : n < 2 ^ 63) : (runK prog pR12b 60).call 101 [.rng .i64 n 0 9223372036854775807] (Bg 8) finV = some (.sstr (itoa n)) := by
 rw [run101]
 obtain ⟨n, rfl⟩ := Int.eq_ofNat_of_zero_le h0
 obtain ⟨t1, t2⟩ := topD_text n
 have hlen : (lowD n).length ≤ 19 := by
  have h2 := itoaN_len (n := n) (k := 19) (by omega) (by omega)
  rw [itoaN] at h2
  unfold lowD
  rw [List.length_tail]; omega
 have e5 : (48 : Int) + ((topD n : Nat) : Int) = ((48 + topD n : Nat) : Int) := by omega
 rw [Int.toNat_natCast, propB_true ⟨h0, h1, rfl⟩, decide_eq_true (show 1 + (lowD n).length < 4611686018427387904 by omega), e5, W_nat (n := 48 + topD n) (by omega), wrap8_nat (n := 48 + topD n) (by omega), Int.toNat_natCast, t1, ← itoaN]
 by_cases hz : n = 0
 ·subst hz; rfl
 ·rw [show ((n : Int) == 0 - (n : Int)) = false by rw [beq_eq_false_iff_ne]; omega]; rfl
noncomputable def gOfP : List AV → Tr AV
 | [a] => match snum a with
  | some (k, n) => .br (propB (k = .i64 ∧ 0 ≤ n ∧ n < 2 ^ 63)) (.leaf (.sstr (itoa n))) .fail
  | none => .fail
 | _ => .fail
noncomputable def pR12p : Prims := pR11.addt 101 gOfP
noncomputable def gOf : List AV → Tr AV
 | [a] => match snum a with
  | some (k, n) => .br (propB (k = .i64 ∧ -(2 ^ 63) < n ∧ n < 2 ^ 63)) (.leaf (.sstr (itoa n))) .fail
  | none => .fail
 | _ => .fail
noncomputable def pR12 : Prims := pR11.addt 101 gOf
theorem vrl_rng {ι : Emb} {a : AV} {k : IntKind} {n lo hi : Int} {xs : List Value} (h : snum a = some (k, n)) (h1 : lo ≤ n) (h2 : n ≤ hi) (hx : VRL ι [a] xs) : VRL ι [.rng k n lo hi] xs := by
 refine VRL.weaken (show ([.rng k n lo hi] : List AV).length = [a].length from rfl) (fun i a' hi => ?_) hx
 match i, hi with
 | 0, hi => cases hi; exact ⟨_, rfl, fun v hv => by simp only [VR]; exact ⟨snum_VR h hv, h1, h2⟩⟩
 | i + 1, hi => simp at hi
def spOfR : SP := ⟨dr 2 ++ [.str] ++ dr 34, dd8⟩
theorem run101n (n : Int) : execK prog (runK prog pR12p 60) noBps code101 ([.rng .i64 n (-9223372036854775807) (-1)] ++ List.replicate 36 aundef) (Bg 8) (nrmP (fun _ => spOfR) 8 []) =
  brK (propB (IntKind.i64 = .i64 ∧ 0 ≤ 0 - n ∧ 0 - n < 2 ^ 63)) (brK (propB (zOK (itoa (0 - n)))) (some (.ret, [.s (itoa (-(dvalZ (itoa (0 - n)))))])) none) none := by kernel_rfl
noncomputable def pOn (n : Int) : Prims := pR11.addh 101 (gPin [.rng .i64 n (-9223372036854775807) (-1)] (Bg 8) (.sstr (itoa n)) (Bg 8) [])
theorem runOn (n : Int) : (runK prog (pOn n) 60).call 101 [.rng .i64 n (-9223372036854775807) (-1)] (Bg 8) finV =
  brK (propB (([.rng .i64 n (-9223372036854775807) (-1)] : List AV) = [.rng .i64 n (-9223372036854775807) (-1)] ∧ Bg 8 = Bg 8)) (some (.sstr (itoa n))) none := by kernel_rfl
section
variable {A : Amb} (hT : Tab A) (hG : prog.globals.size ≤ A.G)
include hT hG
theorem pR12p_ok : PrimOK prog A pR12p := by
 refine PrimOK.addt3 hmix hnum (pR11_ok hT hG) hG func101 (by kernel_rfl) fun args v hv => ?_
 unfold gOfP at hv
 split at hv
 ·rename_i a
  split at hv
  ·rename_i k n hs
   obtain ⟨hc, hv⟩ := Tr.br1 hv
   cases hv
   obtain ⟨rfl, h0, h1⟩ := propB_eq hc
   obtain ⟨B', hca⟩ := Ca.of_finV (run101_eq h0 h1)
   exact ⟨pR12b, _, _, B', pR12b_ok hT hG, fun ι xs hx => vrl_rng (lo := 0) (hi := 9223372036854775807) hs h0 (by omega) hx, fun ι x hx => hx, rfl, rfl, by rw [gsz]; exact hca⟩
  ·cases hv
 ·cases hv
theorem pOn_ok {n : Int} (h0 : n < 0) (h1 : -(2 ^ 63) < n) : PrimOK prog A (pOn n) := by
 refine PrimOK.body (pR11_ok hT hG) func101 (show f101.body = some code101 by kernel_rfl) fun args B v B' D hq => ?_
 obtain ⟨hc1, hv⟩ := Tr.br_get0 hq
 obtain ⟨rfl, rfl⟩ := propB_eq hc1
 simp only [Tr.get, Option.some.injEq, Prod.mk.injEq] at hv
 obtain ⟨rfl, rfl, rfl⟩ := hv
 have hk := run101n n
 have hz : zOK (itoa (0 - n)) := zOK_itoa (k := 19) (by omega) (by omega) (by omega)
 rw [propB_true ⟨rfl, by omega, by omega⟩, propB_true hz, dvalZ_itoa, show -(0 - n) = n by omega] at hk
 have hs := SEB.of_KP (A := A) (B0 := Bg 8) (e := .ret) hmix hnum (pR12p_ok hT hG) (.none _) rfl hk rfl
 exact ⟨⟨Nat.le_refl _, fun _ _ _ => rfl⟩, [.rng .i64 n (-9223372036854775807) (-1)], .ret, _, [.sstr (itoa n)], fun _ _ h => h, hs, by simp, rfl, rfl, rfl, rfl⟩
theorem pR12_ok : PrimOK prog A pR12 := by
 refine PrimOK.addt3 hmix hnum (pR11_ok hT hG) hG func101 (by kernel_rfl) fun args v hv => ?_
 unfold gOf at hv
 split at hv
 ·rename_i a
  split at hv
  ·rename_i k n hs
   obtain ⟨hc, hv⟩ := Tr.br1 hv
   cases hv
   obtain ⟨rfl, h0, h1⟩ := propB_eq hc
   by_cases hn : 0 ≤ n
   ·obtain ⟨B', hca⟩ := Ca.of_finV (run101_eq hn h1)
    exact ⟨pR12b, _, _, B', pR12b_ok hT hG, fun ι xs hx => vrl_rng (lo := 0) (hi := 9223372036854775807) hs hn (by omega) hx, fun ι x hx => hx, rfl, rfl, by rw [gsz]; exact hca⟩
   ·have hk := runOn n
    rw [propB_true ⟨rfl, rfl⟩, brK_t] at hk
    obtain ⟨B', hca⟩ := Ca.of_finV hk
    exact ⟨pOn n, _, _, B', pOn_ok hT hG (by omega) h0, fun ι xs hx => vrl_rng (lo := -9223372036854775807) (hi := -1) hs (by omega) (by omega) hx, fun ι x hx => hx, rfl, rfl, by rw [gsz]; exact hca⟩
  ·cases hv
 ·cases hv
end
end Go.Proofs.Tryz
namespace Go.Proofs.Tryz
open Go.Ad
open Go.Lib (decDigits itoa nDigits decFrom digitVal)
def brOK (a b : List UInt8) : Bool := decide ((absT a).length ≤ 18) && decide ((absT b).length ≤ 18)
theorem run117 (a b : List UInt8) : (runK prog pR12 60).call 117 [.sstr a, .sstr b] (Bg 8) finV =
  brK (decide (((absT a).length : Int) > 18)) (some (.tuple [.int .i64 0, .int .i64 0, .bool false])) (brK (decide (((absT b).length : Int) > 18)) (some (.tuple [.int .i64 0, .int .i64 0, .bool false]))
   (brK (propB (isZ a ∧ (absT a).length ≤ 18)) (brK (propB (isZ b ∧ (absT b).length ≤ 18)) (some (.tuple [.sint .i64 (dvalZ a), .sint .i64 (dvalZ b), .bool true])) none) none)) := by kernel_rfl
noncomputable def T117 : List Lf → Tr AV
 | [.s a, .s b] => .br (propB (isZ a ∧ isZ b)) (.leaf (.tuple [.sint .i64 (bif brOK a b then dvalZ a else 0), .sint .i64 (bif brOK a b then dvalZ b else 0), .sbool (brOK a b)])) .fail
 | _ => .fail
noncomputable def pR13 : Prims := pR12.addt 117 (gP [.str, .str] T117)
theorem pR13_ok {A : Amb} (hT : Tab A) (hG : prog.globals.size ≤ A.G) : PrimOK prog A pR13 := by
 refine PrimOK.addP hmix hnum (pR12_ok hT hG) (pR12_ok hT hG) hG func117 (by kernel_rfl) fun ls v h => ?_
 unfold T117 at h
 split at h
 ·rename_i a b
  obtain ⟨hc, hv⟩ := Tr.br1 h
  cases hv
  obtain ⟨ha, hb⟩ := propB_eq hc
  have hk := run117 a b
  have fin : ∀ v', (runK prog pR12 60).call 117 [.sstr a, .sstr b] (Bg 8) finV = some v' → below 0 v' = true → (∀ ι x, VR ι v' x → VR ι (.tuple [.sint .i64 (bif brOK a b then dvalZ a else 0), .sint .i64 (bif brOK a b then dvalZ b else 0), .sbool (brOK a b)]) x) →
    belowL 0 (mkT [.str, .str] [.s a, .s b]).1 = true ∧ ∃ n v', (runK prog pR12 n).call 117 (mkT [.str, .str] [.s a, .s b]).1 (Bg prog.globals.size) finV = some v' ∧ below 0 v' = true ∧ ∀ ι x, VR ι v' x → VR ι (.tuple [.sint .i64 (bif brOK a b then dvalZ a else 0), .sint .i64 (bif brOK a b then dvalZ b else 0), .sbool (brOK a b)]) x := fun v' h1 h2 h3 =>
   ⟨rfl, 60, v', by rw [gsz]; exact h1, h2, h3⟩
  by_cases h1 : (absT a).length ≤ 18
  ·rw [decide_eq_false (show ¬ ((absT a).length : Int) > 18 by omega)] at hk
   by_cases h2 : (absT b).length ≤ 18
   ·have hs : brOK a b = true := by unfold brOK; rw [decide_eq_true h1, decide_eq_true h2]; rfl
    rw [decide_eq_false (show ¬ ((absT b).length : Int) > 18 by omega), propB_true ⟨ha, h1⟩, propB_true ⟨hb, h2⟩] at hk
    refine fin _ hk rfl fun ι x => ?_
    rw [hs]; exact vr_tup3 (fun _ h => h) (fun _ h => h) (fun _ h => vr_bool rfl _ h) x
   ·have hs : brOK a b = false := by unfold brOK; rw [decide_eq_false h2, Bool.and_false]
    rw [decide_eq_true (show ((absT b).length : Int) > 18 by omega)] at hk
    refine fin _ hk rfl fun ι x => ?_
    rw [hs]; exact vr_tup3 (fun _ h => vr_int rfl _ h) (fun _ h => vr_int rfl _ h) (fun _ h => vr_bool rfl _ h) x
  ·have hs : brOK a b = false := by unfold brOK; rw [decide_eq_false h1, Bool.false_and]
   rw [decide_eq_true (show ((absT a).length : Int) > 18 by omega)] at hk
   refine fin _ hk rfl fun ι x => ?_
   rw [hs]; exact vr_tup3 (fun _ h => vr_int rfl _ h) (fun _ h => vr_int rfl _ h) (fun _ h => vr_bool rfl _ h) x
 ·cases h
theorem brOK_lt {a b : List UInt8} (ha : isZ a) (hb : isZ b) (h : brOK a b = true) : ((dvalZ a).natAbs < 10 ^ 18 ∧ (dvalZ b).natAbs < 10 ^ 18) := by
 unfold brOK at h
 rw [Bool.and_eq_true, decide_eq_true_eq, decide_eq_true_eq] at h
 have h1 := itoaN_lt (dvalZ a).natAbs
 have h2 := itoaN_lt (dvalZ b).natAbs
 rw [← isZ_abs ha] at h1
 rw [← isZ_abs hb] at h2
 exact ⟨Nat.lt_of_lt_of_le h1 (Nat.pow_le_pow_right (by decide) h.1), Nat.lt_of_lt_of_le h2 (Nat.pow_le_pow_right (by decide) h.2)⟩
noncomputable abbrev leafP (a x y : List UInt8) (ad s : Bool) : Option AV :=
 brK (propB (x.all isDg = true ∧ y.all isDg = true ∧ x.length < 2 ^ 30 ∧ y.length < 2 ^ 30 ∧ (ad = false → digW 0 y ≤ digW 0 x))) (brK (propB (isZ a)) (brK (decide (1 + (itoa (sumN ad (digW 0 x) (digW 0 y) : Nat)).length < 4611686018427387904))
  (some (.sstr (sgnT (itoa (sumN ad (digW 0 x) (digW 0 y) : Nat)) s))) none) none) none
noncomputable abbrev tree100 (a b x y : List UInt8) (la lb : Bool) (n : Int) : Option AV :=
 brK (propB (isZ a ∧ isZ b)) (brK (brOK a b) (brK (propB (IntKind.i64 = .i64 ∧ -(2 ^ 63) < n ∧ n < 2 ^ 63)) (some (.sstr (itoa n))) none)
  (brK (propB (isZ a)) (brK (propB (isZ b)) (brK (la == lb) (leafP a x y true la) (brK (propB (x = itoa (digW 0 x : Nat) ∧ y = itoa (digW 0 y : Nat))) (brK (decide (digW 0 x < digW 0 y)) (leafP b y x false lb) (leafP a x y false la)) none)) none) none)) none
theorem run100 (a b : List UInt8) : (runK prog pR13 60).call 100 [.sstr a, .sstr b] (Bg 8) finV =
  tree100 a b (absT a) (absT b) (decide (dvalZ a < 0)) (decide (dvalZ b < 0)) (W ((bif brOK a b then dvalZ a else 0) + (bif brOK a b then dvalZ b else 0))) := by kernel_rfl
theorem leafP_eq {a : List UInt8} {X Y : Nat} {ad s : Bool} (ha : isZ a) (lx : (itoa (X : Int)).length < 2 ^ 27) (ly : (itoa (Y : Int)).length < 2 ^ 27) (hle : ad = false → Y ≤ X) :
  leafP a (itoa (X : Nat)) (itoa (Y : Nat)) ad s = some (.sstr (itoa (sv s (sumN ad X Y)))) := by
 unfold leafP
 have hlen : (itoa (sumN ad X Y : Nat)).length ≤ 2 ^ 28 := by
  have hx := itoaN_lt X
  have hy := itoaN_lt Y
  have h2 : (itoa (X : Int)).length ≤ max (itoa (X : Int)).length (itoa (Y : Int)).length := by omega
  have h3 : (itoa (Y : Int)).length ≤ max (itoa (X : Int)).length (itoa (Y : Int)).length := by omega
  have h4 := Nat.lt_of_lt_of_le hx (Nat.pow_le_pow_right (n := 10) (by decide) h2)
  have h5 := Nat.lt_of_lt_of_le hy (Nat.pow_le_pow_right (n := 10) (by decide) h3)
  have h6 : sumN ad X Y < 10 ^ (max (itoa (X : Int)).length (itoa (Y : Int)).length + 1) := by
   rw [Nat.pow_succ]
   unfold sumN
   cases ad <;> simp only [cond_true, cond_false] <;> omega
  have := itoaN_len h6 (by omega)
  omega
 rw [digW_itoa, digW_itoa, propB_true ⟨itoaN_all X, itoaN_all Y, by omega, by omega, hle⟩, propB_true ha, decide_eq_true (show 1 + (itoa (sumN ad X Y : Nat)).length < 4611686018427387904 by omega), sgnT_sv]
 rfl
noncomputable def TI (op : Int → Int → Int) : List Lf → Tr AV
 | [.s a, .s b] => .br (propB (zOK a ∧ zOK b)) (.leaf (.sstr (itoa (op (dvalZ a) (dvalZ b))))) .fail
 | _ => .fail
noncomputable def pR14 : Prims := pR13.addt 100 (gP [.str, .str] (TI (· + ·)))
theorem zOK_abs {a : List UInt8} (h : zOK a) : absT a = itoa ((dvalZ a).natAbs : Nat) ∧ (itoa ((dvalZ a).natAbs : Int)).length < 2 ^ 26 := by
 have h1 := isZ_abs h.1
 have h2 := (absT_len1 a).1
 have h3 := h.2
 rw [h1] at h2
 exact ⟨h1, by omega⟩
theorem sum_eq (A B : Int) (h : decide (A < 0) = decide (B < 0)) : sv (decide (A < 0)) (A.natAbs + B.natAbs) = A + B := by
 have := decide_eq_decide.1 h
 by_cases h0 : A < 0
 ·rw [decide_eq_true h0, sv_t]; omega
 ·rw [decide_eq_false h0, sv_f]; omega
theorem tree100_eq {a b : List UInt8} (ha : zOK a) (hb : zOK b) : tree100 a b (absT a) (absT b) (decide (dvalZ a < 0)) (decide (dvalZ b < 0)) (W ((bif brOK a b then dvalZ a else 0) + (bif brOK a b then dvalZ b else 0))) = some (.sstr (itoa (dvalZ a + dvalZ b))) := by
 obtain ⟨a1, a2⟩ := zOK_abs ha
 obtain ⟨b1, b2⟩ := zOK_abs hb
 unfold tree100
 rw [propB_true ⟨ha.1, hb.1⟩, brK_t]
 cases hbr : brOK a b with
 | true =>
  obtain ⟨h1, h2⟩ := brOK_lt ha.1 hb.1 hbr
  rw [cond_true, cond_true, W_id (by omega) (by omega), propB_true ⟨rfl, by omega, by omega⟩]; rfl
 | false =>
  rw [brK_f, propB_true ha.1, propB_true hb.1, brK_t, brK_t, a1, b1]
  cases hl : (decide (dvalZ a < 0) == decide (dvalZ b < 0)) with
  | true =>
   rw [brK_t, leafP_eq ha.1 (by omega) (by omega) (fun h => by cases h)]
   have := sum_eq (dvalZ a) (dvalZ b) (by simpa using hl)
   show some (AV.sstr (itoa (sv (decide (dvalZ a < 0)) ((dvalZ a).natAbs + (dvalZ b).natAbs)))) = _
   rw [this]
  | false =>
   have hne : decide (dvalZ a < 0) ≠ decide (dvalZ b < 0) := by simpa using hl
   have hiff : ¬ (dvalZ a < 0 ↔ dvalZ b < 0) := fun e => hne (decide_eq_decide.2 e)
   rw [brK_f, digW_itoa, digW_itoa, propB_true ⟨rfl, rfl⟩, brK_t]
   by_cases hlt : (dvalZ a).natAbs < (dvalZ b).natAbs
   ·rw [decide_eq_true hlt, brK_t, leafP_eq hb.1 (by omega) (by omega) (fun _ => by omega)]
    congr 3
    show sv (decide (dvalZ b < 0)) ((dvalZ b).natAbs - (dvalZ a).natAbs) = _
    by_cases h0 : dvalZ b < 0
    ·rw [decide_eq_true h0, sv_t]; omega
    ·rw [decide_eq_false h0, sv_f]; omega
   ·rw [decide_eq_false hlt, brK_f, leafP_eq ha.1 (by omega) (by omega) (fun _ => by omega)]
    congr 3
    show sv (decide (dvalZ a < 0)) ((dvalZ a).natAbs - (dvalZ b).natAbs) = _
    by_cases h0 : dvalZ a < 0
    ·rw [decide_eq_true h0, sv_t]; omega
    ·rw [decide_eq_false h0, sv_f]; omega
theorem pR14_ok {A : Amb} (hT : Tab A) (hG : prog.globals.size ≤ A.G) : PrimOK prog A pR14 := by
 refine PrimOK.addP hmix hnum (pR13_ok hT hG) (pR13_ok hT hG) hG func100 (by kernel_rfl) fun ls v h => ?_
 unfold TI at h
 split at h
 ·rename_i a b
  obtain ⟨hc, hv⟩ := Tr.br1 h
  cases hv
  obtain ⟨ha, hb⟩ := propB_eq hc
  exact ⟨rfl, 60, _, by rw [gsz]; exact (run100 a b).trans (tree100_eq ha hb), rfl, fun ι x h => h⟩
 ·cases h
noncomputable abbrev leafT (a b x y : List UInt8) (s : Bool) : Option AV :=
 brK (propB (x.all isDg = true ∧ y.all isDg = true ∧ x ≠ [] ∧ x.length < 2 ^ 29 ∧ y.length < 2 ^ 29)) (brK (propB (isZ a)) (brK (propB (isZ b)) (brK (decide (1 + (itoa (digW 0 x * digW 0 y : Nat)).length < 4611686018427387904))
  (some (.sstr (sgnT (itoa (digW 0 x * digW 0 y : Nat)) s))) none) none) none) none
noncomputable abbrev tree73 (a b x y : List UInt8) (la lb : Bool) (n : Int) : Option AV :=
 brK (propB (isZ a ∧ isZ b)) (brK (brOK a b) (brK (decide (W ((a.length : Int) + (b.length : Int)) ≤ 18)) (brK (propB (IntKind.i64 = .i64 ∧ -(2 ^ 63) < n ∧ n < 2 ^ 63)) (some (.sstr (itoa n))) none) (leafT a b x y (!(la == lb)))) (leafT a b x y (!(la == lb)))) none
theorem run73 (a b : List UInt8) : (runK prog pR14 60).call 73 [.sstr a, .sstr b] (Bg 8) finV =
  tree73 a b (absT a) (absT b) (decide (dvalZ a < 0)) (decide (dvalZ b < 0)) (W ((bif brOK a b then dvalZ a else 0) * (bif brOK a b then dvalZ b else 0))) := by kernel_rfl
theorem leafT_eq {a b : List UInt8} {X Y : Nat} {s : Bool} (ha : isZ a) (hb : isZ b) (lx : (itoa (X : Int)).length < 2 ^ 26) (ly : (itoa (Y : Int)).length < 2 ^ 26) :
  leafT a b (itoa (X : Nat)) (itoa (Y : Nat)) s = some (.sstr (itoa (sv s (X * Y)))) := by
 unfold leafT
 have hlen : (itoa ((X * Y : Nat) : Int)).length ≤ 2 ^ 28 := by
  have hx := itoaN_lt X
  have hy := itoaN_lt Y
  have h6 := Nat.mul_lt_mul'' hx hy
  rw [← Nat.pow_add] at h6
  have hpos : 0 < (itoa (X : Int)).length := by cases hh : itoa (X : Int) with | nil => exact (itoa_ne _ hh).elim | cons => simp
  have := itoaN_len h6 (by omega)
  omega
 rw [digW_itoa, digW_itoa, propB_true ⟨itoaN_all X, itoaN_all Y, itoa_ne _, by omega, by omega⟩, propB_true ha, propB_true hb, decide_eq_true (show 1 + (itoa ((X * Y : Nat) : Int)).length < 4611686018427387904 by omega), sgnT_sv]
 rfl
theorem mul_sv (A B : Int) : sv (!(decide (A < 0) == decide (B < 0))) (A.natAbs * B.natAbs) = A * B := by
 have := sv_mul (decide (A < 0)) (decide (B < 0)) A.natAbs B.natAbs
 rw [sv_of, sv_of] at this
 exact this
noncomputable def pR15 : Prims := pR14.addt 73 (gP [.str, .str] (TI (· * ·)))
theorem isZ_lt {a : List UInt8} (h : isZ a) : (dvalZ a).natAbs < 10 ^ a.length := by
 have h1 := itoaN_lt (dvalZ a).natAbs
 rw [← isZ_abs h] at h1
 exact Nat.lt_of_lt_of_le h1 (Nat.pow_le_pow_right (by decide) (absT_len1 a).1)
theorem tree73_eq {a b : List UInt8} (ha : zOK a) (hb : zOK b) : tree73 a b (absT a) (absT b) (decide (dvalZ a < 0)) (decide (dvalZ b < 0)) (W ((bif brOK a b then dvalZ a else 0) * (bif brOK a b then dvalZ b else 0))) = some (.sstr (itoa (dvalZ a * dvalZ b))) := by
 obtain ⟨a1, a2⟩ := zOK_abs ha
 obtain ⟨b1, b2⟩ := zOK_abs hb
 have hlt := leafT_eq (s := !(decide (dvalZ a < 0) == decide (dvalZ b < 0))) ha.1 hb.1 a2 b2
 rw [mul_sv] at hlt
 have ha2 := ha.2
 have hb2 := hb.2
 unfold tree73
 rw [propB_true ⟨ha.1, hb.1⟩, brK_t, W_id (n := (a.length : Int) + (b.length : Int)) (by omega) (by omega)]
 cases hbr : brOK a b with
 | true =>
  rw [brK_t]
  by_cases h18 : a.length + b.length ≤ 18
  ·have h1 := isZ_lt ha.1
   have h2 := isZ_lt hb.1
   have h3 := Nat.mul_lt_mul'' h1 h2
   rw [← Nat.pow_add] at h3
   have h4 := Nat.lt_of_lt_of_le h3 (Nat.pow_le_pow_right (n := 10) (by decide) h18)
   have h5 : (dvalZ a * dvalZ b).natAbs < 10 ^ 18 := by rw [Int.natAbs_mul]; exact h4
   rw [cond_true, cond_true, decide_eq_true (show (a.length : Int) + (b.length : Int) ≤ 18 by omega), brK_t, W_id (by omega) (by omega), propB_true ⟨rfl, by omega, by omega⟩]; rfl
  ·rw [decide_eq_false (show ¬ (a.length : Int) + (b.length : Int) ≤ 18 by omega), brK_f, a1, b1]
   exact hlt
 | false => rw [brK_f, a1, b1]; exact hlt
theorem pR15_ok {A : Amb} (hT : Tab A) (hG : prog.globals.size ≤ A.G) : PrimOK prog A pR15 := by
 refine PrimOK.addP hmix hnum (pR14_ok hT hG) (pR14_ok hT hG) hG func73 (by kernel_rfl) fun ls v h => ?_
 unfold TI at h
 split at h
 ·rename_i a b
  obtain ⟨hc, hv⟩ := Tr.br1 h
  cases hv
  obtain ⟨ha, hb⟩ := propB_eq hc
  exact ⟨rfl, 60, _, by rw [gsz]; exact (run73 a b).trans (tree73_eq ha hb), rfl, fun ι x h => h⟩
 ·cases h
theorem run122 (a b : List UInt8) : (runK prog pR15 60).call 122 [.sstr a, .sstr b] (Bg 8) finV =
  brK (propB (zOK b)) (brK (propB (zOK a ∧ zOK (itoa (-(dvalZ b))))) (some (.sstr (itoa (dvalZ a + dvalZ (itoa (-(dvalZ b))))))) none) none := by kernel_rfl
def zOK' (a : List UInt8) : Prop := isZ a ∧ a.length < 2 ^ 26 - 1
theorem zOK'_ok {a : List UInt8} (h : zOK' a) : zOK a := ⟨h.1, by have := h.2; omega⟩
theorem zOK'_neg {a : List UInt8} (h : zOK' a) : zOK (itoa (-(dvalZ a))) := by
 refine ⟨isZ_itoa _, ?_⟩
 have h1 := itoa_len (-(dvalZ a))
 have h2 := (zOK_abs (zOK'_ok h)).1
 have h3 := (absT_len1 a).1
 have h4 := h.2
 rw [h2, itoaN] at h3
 rw [Int.natAbs_neg] at h1
 omega
noncomputable def TJ (op : Int → Int → Int) : List Lf → Tr AV
 | [.s a, .s b] => .br (propB (zOK' a ∧ zOK' b)) (.leaf (.sstr (itoa (op (dvalZ a) (dvalZ b))))) .fail
 | _ => .fail
noncomputable def pR16 : Prims := pR15.addt 122 (gP [.str, .str] (TJ (· - ·)))
theorem pR16_ok {A : Amb} (hT : Tab A) (hG : prog.globals.size ≤ A.G) : PrimOK prog A pR16 := by
 refine PrimOK.addP hmix hnum (pR15_ok hT hG) (pR15_ok hT hG) hG func122 (by kernel_rfl) fun ls v h => ?_
 unfold TJ at h
 split at h
 ·rename_i a b
  obtain ⟨hc, hv⟩ := Tr.br1 h
  cases hv
  obtain ⟨ha, hb⟩ := propB_eq hc
  refine ⟨rfl, 60, .sstr (itoa (dvalZ a - dvalZ b)), ?_, rfl, fun ι x h => h⟩
  rw [gsz]
  refine (run122 a b).trans ?_
  rw [propB_true (zOK'_ok hb), propB_true ⟨zOK'_ok ha, zOK'_neg hb⟩, dvalZ_itoa, Int.sub_eq_add_neg]
  rfl
 ·cases h
theorem run114 (a b : List UInt8) : (runK prog pR16 60).call 114 [.sstr a, .sstr b] (Bg 8) finV =
  brK (propB (zOK' a ∧ zOK' b)) (brK (itoa (dvalZ a - dvalZ b) == [48]) (some (.int .i64 0)) (brK (propB (isZ (itoa (dvalZ a - dvalZ b)))) (brK (decide (dvalZ (itoa (dvalZ a - dvalZ b)) < 0)) (some (.int .i64 (-1))) (some (.int .i64 1))) none)) none := by kernel_rfl
noncomputable def T114 : List Lf → Tr AV
 | [.s a, .s b] => .br (propB (zOK' a ∧ zOK' b)) (.leaf (.sint .i64 (sgnZ (dvalZ a - dvalZ b)))) .fail
 | _ => .fail
noncomputable def pR17 : Prims := pR16.addt 114 (gP [.str, .str] T114)
theorem pR17_ok {A : Amb} (hT : Tab A) (hG : prog.globals.size ≤ A.G) : PrimOK prog A pR17 := by
 refine PrimOK.addP hmix hnum (pR16_ok hT hG) (pR16_ok hT hG) hG func114 (by kernel_rfl) fun ls v h => ?_
 unfold T114 at h
 split at h
 ·rename_i a b
  obtain ⟨hc, hv⟩ := Tr.br1 h
  cases hv
  have hab := propB_eq hc
  have hk := run114 a b
  refine ⟨rfl, 60, .int .i64 (sgnZ (dvalZ a - dvalZ b)), ?_, rfl, fun ι x => vr_int rfl x⟩
  rw [gsz]
  refine hk.trans ?_
  rw [propB_true hab, brK_t, itoa_is0, propB_true (isZ_itoa _), dvalZ_itoa]
  unfold sgnZ
  by_cases h0 : dvalZ a - dvalZ b = 0
  ·rw [decide_eq_true h0, if_pos h0]; rfl
  ·rw [decide_eq_false h0, if_neg h0]
   by_cases h1 : dvalZ a - dvalZ b < 0
   ·rw [decide_eq_true h1, if_pos h1]; rfl
   ·rw [decide_eq_false h1, if_neg h1]; rfl
 ·cases h
end Go.Proofs.Tryz
namespace Go.Proofs.Tryz
open Go.Ad
open Go.Lib (decDigits itoa nDigits decFrom digitVal)
noncomputable abbrev fin72 (x y r : Int) : Option (List Lf) :=
 brK (decide ¬ y = 0) (brK (propB (IntKind.i64 = .i64 ∧ -(2 ^ 63) < W ((W (x - r)).tdiv y) ∧ W ((W (x - r)).tdiv y) < 2 ^ 63)) (brK (propB (IntKind.i64 = .i64 ∧ -(2 ^ 63) < r ∧ r < 2 ^ 63)) (some [.s (itoa (W ((W (x - r)).tdiv y))), .s (itoa r)]) none) none) none
noncomputable abbrev sm72 (x y : Int) : Option (List Lf) :=
 brK (decide ¬ y = 0) (brK (x.tmod y != 0) (brK (!(decide (x.tmod y < 0) == decide (y < 0))) (fin72 x y (W (x.tmod y + y))) (fin72 x y (x.tmod y))) (fin72 x y (x.tmod y))) none
noncomputable abbrev mul72 (a b out : List UInt8) : Option (List Lf) :=
 brK (propB (zOK out ∧ zOK b)) (brK (propB (zOK' a ∧ zOK' (itoa (dvalZ out * dvalZ b)))) (some [.s out, .s (itoa (dvalZ a - dvalZ (itoa (dvalZ out * dvalZ b))))]) none) none
noncomputable abbrev q72 (a b : List UInt8) (la lb : Bool) (r q : List UInt8) : Option (List Lf) :=
 brK (!(r == [48])) (brK (propB (isZ a)) (brK (propB (isZ b)) (brK (!(la == lb)) (brK (propB (zOK' q ∧ zOK' [49])) (mul72 a b (itoa (dvalZ q - dvalZ [49]))) none) (mul72 a b q)) none) none) (mul72 a b q)
noncomputable abbrev big72 (a b x y : List UInt8) (la lb : Bool) : Option (List Lf) :=
 brK (propB (x.all isDg = true ∧ x ≠ [] ∧ y = itoa (digW 0 y : Nat) ∧ 0 < digW 0 y ∧ x.length < 2 ^ 28 ∧ y.length < 2 ^ 28)) (brK (propB (isZ a)) (brK (propB (isZ b)) (brK (decide (1 + (itoa (digW 0 x / digW 0 y : Nat)).length < 4611686018427387904))
  (q72 a b la lb (itoa (digW 0 x % digW 0 y : Nat)) (sgnT (itoa (digW 0 x / digW 0 y : Nat)) (!(la == lb)))) none) none) none) none
theorem run72 (a b : List UInt8) : (runK prog pR17 60).call 72 (spSS.rho [.s a, .s b]) (spSS.heap [.s a, .s b]) (finQ spSS 8 []) =
  brK (propB (isZ a ∧ isZ b)) (brK (brOK a b) (sm72 (bif brOK a b then dvalZ a else 0) (bif brOK a b then dvalZ b else 0)) (big72 a b (absT a) (absT b) (decide (dvalZ a < 0)) (decide (dvalZ b < 0)))) none := by kernel_rfl
theorem tdiv_exact {x y q : Int} (h : x = y * q) (hy : y ≠ 0) : x.tdiv y = q := by
 subst h
 exact Int.mul_tdiv_cancel_left q hy
theorem fin72_eq {x y q r : Int} (h : r + y * q = x) (hy : y ≠ 0) (x1 : x.natAbs < 10 ^ 18) (r1 : r.natAbs < 2 ^ 62) (q1 : q.natAbs < 2 ^ 62) : fin72 x y r = some [.s (itoa q), .s (itoa r)] := by
 have e : (x - r).tdiv y = q := tdiv_exact (by omega) hy
 unfold fin72
 rw [W_id (n := x - r) (by omega) (by omega), e, W_id (n := q) (by omega) (by omega), decide_eq_true hy, propB_true ⟨rfl, by omega, by omega⟩, propB_true ⟨rfl, by omega, by omega⟩]
 rfl
theorem sm72_eq {x y : Int} (hy : y ≠ 0) (x1 : x.natAbs < 10 ^ 18) (y1 : y.natAbs < 10 ^ 18) : sm72 x y = some [.s (itoa (x.fdiv y)), .s (itoa (x.fmod y))] := by
 have h0 := Int.tmod_add_mul_tdiv x y
 have hr : (x.tmod y).natAbs < y.natAbs := by
  rw [Int.natAbs_tmod]
  exact Nat.mod_lt _ (by omega)
 have hq : (x.tdiv y).natAbs ≤ x.natAbs := by
  rw [Int.natAbs_tdiv]
  exact Nat.div_le_self _ _
 unfold sm72
 generalize x.tmod y = r at *
 generalize x.tdiv y = q at *
 rw [decide_eq_true hy, brK_t]
 by_cases hr0 : r = 0
 ·obtain ⟨f1, f2⟩ := floorZ (A := x) (B := y) (q := q) (r := r) h0 (by omega)
  rw [f1, f2, show (r != 0) = false by simpa using hr0, brK_f]
  exact fin72_eq h0 hy (by omega) (by omega) (by omega)
 ·rw [show (r != 0) = true by simpa using hr0, brK_t]
  by_cases hs : (r < 0 ↔ y < 0)
  ·obtain ⟨f1, f2⟩ := floorZ (A := x) (B := y) (q := q) (r := r) h0 (by omega)
   rw [f1, f2, show (decide (r < 0) == decide (y < 0)) = true by rw [beq_iff_eq]; exact decide_eq_decide.2 hs]
   exact fin72_eq h0 hy (by omega) (by omega) (by omega)
  ·have hm : y * (q - 1) = y * q - y := by rw [Int.mul_sub, Int.mul_one]
   have h1 : r + y + y * (q - 1) = x := by rw [hm]; omega
   obtain ⟨f1, f2⟩ := floorZ (A := x) (B := y) (q := q - 1) (r := r + y) h1 (by omega)
   rw [f1, f2, show (decide (r < 0) == decide (y < 0)) = false by rw [beq_eq_false_iff_ne]; exact fun e => hs (decide_eq_decide.1 e), W_id (n := r + y) (by omega) (by omega)]
   exact fin72_eq h1 hy (by omega) (by omega) (by omega)
def zOKp (a : List UInt8) : Prop := isZ a ∧ a.length < 2 ^ 24
theorem zOKp_ok {a : List UInt8} (h : zOKp a) : zOK' a := ⟨h.1, by have := h.2; omega⟩
theorem itoa_len_le {Z : Int} {k : Nat} (h : Z.natAbs < 10 ^ k) (h1 : 1 ≤ k) : (itoa Z).length ≤ k + 1 := by
 have h2 := itoa_len Z
 have h3 := dec_len_lt h h1
 omega
theorem mul72_eq {a b : List UInt8} {Q : Int} (ha : zOKp a) (hb : zOKp b) (hq : Q.natAbs < 10 ^ (a.length + 1)) : mul72 a b (itoa Q) = some [.s (itoa Q), .s (itoa (dvalZ a - Q * dvalZ b))] := by
 have h1 := ha.2
 have h2 := hb.2
 have hB := isZ_lt hb.1
 have hl := itoa_len_le hq (by omega)
 have h3 : (Q * dvalZ b).natAbs < 10 ^ (a.length + 1 + b.length) := by
  rw [Int.natAbs_mul, Nat.pow_add]
  exact Nat.mul_lt_mul'' hq hB
 have hl2 := itoa_len_le h3 (by omega)
 unfold mul72
 rw [dvalZ_itoa, dvalZ_itoa, propB_true ⟨⟨isZ_itoa _, by omega⟩, zOK'_ok (zOKp_ok hb)⟩, propB_true ⟨zOKp_ok ha, isZ_itoa _, by omega⟩]
 rfl
theorem isZ_ne {a : List UInt8} (h : isZ a) : a ≠ [] := by
 unfold isZ at h
 rw [h]; exact itoa_ne _
theorem big72_eq {a b : List UInt8} (ha : zOKp a) (hb : zOKp b) (h0 : dvalZ b ≠ 0) :
  big72 a b (absT a) (absT b) (decide (dvalZ a < 0)) (decide (dvalZ b < 0)) = some [.s (itoa ((dvalZ a).fdiv (dvalZ b))), .s (itoa ((dvalZ a).fmod (dvalZ b)))] := by
 obtain ⟨a1, a2⟩ := zOK_abs (zOK'_ok (zOKp_ok ha))
 obtain ⟨b1, b2⟩ := zOK_abs (zOK'_ok (zOKp_ok hb))
 have hA := isZ_lt ha.1
 have hne := isZ_ne ha.1
 have la := ha.2
 unfold big72
 rw [a1, b1, digW_itoa, digW_itoa]
 have hU : 0 < (dvalZ b).natAbs := by omega
 have hdm := Nat.div_add_mod (dvalZ a).natAbs (dvalZ b).natAbs
 have hlt := Nat.mod_lt (dvalZ a).natAbs hU
 have hQ : (dvalZ a).natAbs / (dvalZ b).natAbs ≤ (dvalZ a).natAbs := Nat.div_le_self _ _
 have hlq : (itoa (((dvalZ a).natAbs / (dvalZ b).natAbs : Nat) : Int)).length ≤ (itoa ((dvalZ a).natAbs : Int)).length := len_mono hQ
 rw [propB_true ⟨itoaN_all _, itoa_ne _, rfl, hU, by omega, by omega⟩, propB_true ha.1, propB_true hb.1, brK_t, brK_t, brK_t, decide_eq_true (show 1 + (itoa (((dvalZ a).natAbs / (dvalZ b).natAbs : Nat) : Int)).length < 4611686018427387904 by omega), brK_t, sgnT_sv]
 generalize hV : (dvalZ a).natAbs = V at *
 generalize hUU : (dvalZ b).natAbs = U at *
 generalize V / U = Q at *
 generalize V % U = R at *
 have hZ : (V : Int) = (U : Int) * (Q : Int) + (R : Int) := by exact_mod_cast hdm.symm
 have hQ10 : Q < 10 ^ a.length := by omega
 have hp10 : 1 ≤ 10 ^ a.length := Nat.one_le_pow _ _ (by decide)
 have hsvQ : ∀ s : Bool, (sv s Q).natAbs = Q := fun s => by cases s <;> simp [sv]
 have fl := @floorZ (dvalZ a) (dvalZ b)
 have hm1 : (U : Int) * -(Q : Int) = -((U : Int) * Q) := Int.mul_neg _ _
 have hm2 : -(U : Int) * (Q : Int) = -((U : Int) * Q) := Int.neg_mul _ _
 have hm3 : -(U : Int) * -(Q : Int) = (U : Int) * Q := by rw [Int.neg_mul, Int.mul_neg, Int.neg_neg]
 have hm4 : (U : Int) * (-(Q : Int) - 1) = -((U : Int) * Q) - U := by rw [Int.mul_sub, Int.mul_one, hm1]
 have hm5 : -(U : Int) * (-(Q : Int) - 1) = (U : Int) * Q + U := by rw [Int.mul_sub, Int.mul_one, hm3]; omega
 have key : ∀ q r : Int, r + dvalZ b * q = dvalZ a → q.natAbs < 10 ^ (a.length + 1) → ((0 < dvalZ b ∧ 0 ≤ r ∧ r < dvalZ b) ∨ (dvalZ b < 0 ∧ dvalZ b < r ∧ r ≤ 0)) →
   mul72 a b (itoa q) = some [.s (itoa ((dvalZ a).fdiv (dvalZ b))), .s (itoa ((dvalZ a).fmod (dvalZ b)))] := fun q r h1 h2 h3 => by
  obtain ⟨f1, f2⟩ := fl h1 h3
  rw [mul72_eq ha hb h2, f1, f2, show dvalZ a - q * dvalZ b = r by rw [Int.mul_comm]; omega]
 have hsz : ∀ n : Nat, n ≤ Q + 1 → n < 10 ^ (a.length + 1) := fun n hn => by rw [Nat.pow_succ]; omega
 unfold q72
 by_cases hR : R = 0
 ·subst hR
  rw [show (itoa ((0 : Nat) : Int) == [48]) = true from by rw [show ((0 : Nat) : Int) = 0 from rfl, itoa0]; rfl]
  show mul72 a b _ = _
  refine key (sv (!(decide (dvalZ a < 0) == decide (dvalZ b < 0))) Q) 0 ?_ (by rw [hsvQ]; exact hsz _ (by omega)) (by omega)
  by_cases ha0 : dvalZ a < 0 <;> by_cases hb0 : dvalZ b < 0
  ·rw [decide_eq_true ha0, decide_eq_true hb0, show (!(true == true)) = false from rfl, sv_f, show dvalZ b = -(U : Int) by omega, hm2]; omega
  ·rw [decide_eq_true ha0, decide_eq_false hb0, show (!(true == false)) = true from rfl, sv_t, show dvalZ b = (U : Int) by omega, hm1]; omega
  ·rw [decide_eq_false ha0, decide_eq_true hb0, show (!(false == true)) = true from rfl, sv_t, show dvalZ b = -(U : Int) by omega, hm3]; omega
  ·rw [decide_eq_false ha0, decide_eq_false hb0, show (!(false == false)) = false from rfl, sv_f, show dvalZ b = (U : Int) by omega]; omega
 ·rw [show (itoa ((R : Nat) : Int) == [48]) = false by rw [itoa_is0]; exact decide_eq_false (by omega), propB_true ha.1, propB_true hb.1]
  show brK (!(decide (dvalZ a < 0) == decide (dvalZ b < 0))) _ _ = _
  by_cases ha0 : dvalZ a < 0 <;> by_cases hb0 : dvalZ b < 0
  ·rw [decide_eq_true ha0, decide_eq_true hb0]
   show mul72 a b (itoa (sv false Q)) = _
   rw [sv_f]
   refine key Q (-(R : Int)) ?_ (hsz _ (by omega)) (by omega)
   rw [show dvalZ b = -(U : Int) by omega, hm2]; omega
  ·rw [decide_eq_true ha0, decide_eq_false hb0]
   show brK (propB (zOK' (itoa (sv true Q)) ∧ zOK' [49])) (mul72 a b (itoa (dvalZ (itoa (sv true Q)) - 1))) none = _
   have hlen := itoa_len_le (Z := sv true Q) (k := a.length) (by rw [hsvQ]; exact hQ10) (by cases a with | nil => exact (hne rfl).elim | cons => simp)
   rw [dvalZ_itoa, propB_true ⟨⟨isZ_itoa _, by omega⟩, by unfold isZ; exact itoa_1.symm, by decide⟩, brK_t, sv_t]
   refine key (-(Q : Int) - 1) ((U : Int) - R) ?_ (hsz _ (by omega)) (by omega)
   rw [show dvalZ b = (U : Int) by omega, hm4]; omega
  ·rw [decide_eq_false ha0, decide_eq_true hb0]
   show brK (propB (zOK' (itoa (sv true Q)) ∧ zOK' [49])) (mul72 a b (itoa (dvalZ (itoa (sv true Q)) - 1))) none = _
   have hlen := itoa_len_le (Z := sv true Q) (k := a.length) (by rw [hsvQ]; exact hQ10) (by cases a with | nil => exact (hne rfl).elim | cons => simp)
   rw [dvalZ_itoa, propB_true ⟨⟨isZ_itoa _, by omega⟩, by unfold isZ; exact itoa_1.symm, by decide⟩, brK_t, sv_t]
   refine key (-(Q : Int) - 1) ((R : Int) - U) ?_ (hsz _ (by omega)) (by omega)
   rw [show dvalZ b = -(U : Int) by omega, hm5]; omega
  ·rw [decide_eq_false ha0, decide_eq_false hb0]
   show mul72 a b (itoa (sv false Q)) = _
   rw [sv_f]
   refine key Q R ?_ (hsz _ (by omega)) (by omega)
   rw [show dvalZ b = (U : Int) by omega]; omega
noncomputable def T72 : List Lf → Tr (SP × List Lf)
 | [.s a, .s b] => .br (propB (zOKp a ∧ zOKp b ∧ dvalZ b ≠ 0)) (.leaf (spSS, [.s (itoa ((dvalZ a).fdiv (dvalZ b))), .s (itoa ((dvalZ a).fmod (dvalZ b)))])) .fail
 | _ => .fail
noncomputable def pR18 : Prims := pR17.addh 72 (liftG 8 (funQ spSS 8 [] T72))
theorem pR18_ok {A : Amb} (hT : Tab A) (hG : prog.globals.size ≤ A.G) : PrimOK prog A pR18 := by
 refine (pR17_ok hT hG).addl gsz func72 (by kernel_rfl) (funQ_ok hmix hnum rfl fun ls sq l h => ?_)
 unfold T72 at h
 split at h
 ·rename_i a b
  obtain ⟨hc, hv⟩ := Tr.br1 h
  cases hv
  obtain ⟨ha, hb, h0⟩ := propB_eq hc
  refine ⟨⟨.inr rfl, .inr rfl, .inr rfl, .inr rfl, .inr rfl, .inr rfl, .inr rfl, .inr rfl, trivial⟩, rfl, pR17, 60, _, pR17_ok hT hG, (run72 a b).trans ?_, fun _ _ => .refl⟩
  rw [propB_true ⟨ha.1, hb.1⟩, brK_t]
  cases hbr : brOK a b with
  | true =>
   obtain ⟨h1, h2⟩ := brOK_lt ha.1 hb.1 hbr
   rw [brK_t, cond_true, cond_true]
   exact sm72_eq h0 h1 h2
  | false => exact big72_eq ha hb h0
 ·cases h
noncomputable def code115 : Code := f115.body.getD .skip
noncomputable def bodySh : Code := unLoop (findB 0 code115)
noncomputable def bodyShI : Code := unLoop (findB 2 code115)
noncomputable def h0' : Code := fstC code115
noncomputable def h1' : Code := fstC (sndC code115)
noncomputable def h2' : Code := fstC (sndC (sndC code115))
noncomputable def h3' : Code := sndC (sndC (sndC code115))
theorem code115_eq : code115 = .seq h0' (.seq h1' (.seq h2' h3')) := by kernel_rfl
theorem h2_eq : h2' = .block 0 (.loop bodySh) := by kernel_rfl
def spShI : SP := ⟨dr 5 ++ [.int .i64, .int .i64] ++ dr 36, dd8⟩
def spSh : SP := ⟨[.str, .str] ++ dr 41, dd8⟩
def spShE : SP := ⟨dr 4 ++ [.str] ++ dr 38, dd8⟩
def exSh : AEx → SP
 | .ret => spShE
 | _ => spSh
theorem roundShI (m n : Int) : execK prog (runK prog pR18 60) noBps bodyShI (spShI.rho [.i m, .i n]) (spShI.heap [.i m, .i n]) (nrmP (fun _ => spShI) 8 []) =
  brK (decide (n > 0)) (brK (decide ¬n = 0) (some (.normal, [.i n, .i (m.tmod n)])) none) (some (.exit 2, [.i m, .i n])) := by kernel_rfl
noncomputable def hookShI : Blk := hookP spShI 8 [] fun
 | [.i m, .i n] => .br (propB (0 ≤ m ∧ 0 ≤ n)) (.leaf (.normal, spShI, [.i (m.toNat.gcd n.toNat : Nat), .i 0])) .fail
 | _ => .fail
theorem roundSh (a b : List UInt8) : execK prog (runK prog pR18 60) (oneB 2 hookShI) bodySh (spSh.rho [.s a, .s b]) (spSh.heap [.s a, .s b]) (nrmP exSh 8 []) =
  brK (!(b == [48])) (brK (propB (isZ a ∧ isZ b)) (brK (brOK a b) (brK (propB (0 ≤ (bif brOK a b then dvalZ a else 0) ∧ 0 ≤ (bif brOK a b then dvalZ b else 0)))
   ((fun g : Nat => brK (propB (IntKind.i64 = .i64 ∧ -(2 ^ 63) < (g : Int) ∧ (g : Int) < 2 ^ 63)) (some (.ret, [.s (itoa (g : Int))])) none) ((bif brOK a b then dvalZ a else 0).toNat.gcd (bif brOK a b then dvalZ b else 0).toNat)) none)
   (brK (propB (zOKp a ∧ zOKp b ∧ dvalZ b ≠ 0)) (some (.normal, [.s b, .s (itoa ((dvalZ a).fmod (dvalZ b)))])) none)) none) (some (.exit 0, [.s a, .s b])) := by kernel_rfl
def stSh (X Y : Nat) : St := ⟨spSh.rho [.s (itoa (X : Nat)), .s (itoa (Y : Nat))], spSh.heap [.s (itoa (X : Nat)), .s (itoa (Y : Nat))], []⟩
def stShE (s : List UInt8) : St := ⟨spShE.rho [.s s], spShE.heap [.s s], []⟩
section
variable {A : Amb} (hT : Tab A) (hG : prog.globals.size ≤ A.G)
include hT hG
theorem hookShI_ok : ∀ ρ B e' ρ' B' D, (hookShI ρ B).get = some (e', ρ', B', D) → AFr B B' D ∧ SEB prog A B (.block 2 (.loop bodyShI)) ⟨ρ, B, []⟩ e' ⟨ρ', B', D⟩ := by
 have hp := pR18_ok hT hG
 refine hookP_ok rfl fun ls e sq l h => ?_
 split at h
 ·rename_i m n
  obtain ⟨hc, hv⟩ := Tr.br1 h
  cases hv
  obtain ⟨hm, hn⟩ := propB_eq hc
  obtain ⟨m, rfl⟩ := Int.eq_ofNat_of_zero_le hm
  obtain ⟨n, rfl⟩ := Int.eq_ofNat_of_zero_le hn
  rw [Int.toNat_natCast, Int.toNat_natCast]
  refine ⟨⟨.inr rfl, .inr rfl, .inr rfl, .inr rfl, .inr rfl, .inr rfl, .inr rfl, .inr rfl, trivial⟩, fun Bb hB => SEB.block_exit (id := 2) ?_⟩
  refine SEB.while (fun _ : Nat × Nat => True) (fun s => s.2) (fun s => ⟨spShI.rho [.i s.1, .i s.2], spShI.heap [.i s.1, .i s.2], []⟩) (fun s => (.exit 2, ⟨spShI.rho [.i (s.1.gcd s.2 : Nat), .i 0], spShI.heap [.i (s.1.gcd s.2 : Nat), .i 0], []⟩)) (fun s _ => ?_) (m, n) trivial
  obtain ⟨m, n⟩ := s
  by_cases h0 : n = 0
  ·subst h0
   right
   refine ⟨by simp, ?_⟩
   have hk := roundShI (m : Int) ((0 : Nat) : Int)
   rw [show decide (((0 : Nat) : Int) > 0) = false from rfl] at hk
   simp only [Nat.gcd_zero_right]
   exact SEB.of_KP (A := A) (B0 := Bb) (e := .exit 2) hmix hnum hp (.none _) hB hk rfl
  ·left
   refine ⟨(n, m % n), trivial, Nat.mod_lt _ (Nat.pos_of_ne_zero h0), ?_, ?_⟩
   ·show ((AEx.exit 2, (_ : St)) : AEx × St) = _
    have : n.gcd (m % n) = m.gcd n := by rw [Nat.gcd_comm, ← Nat.gcd_rec, Nat.gcd_comm]
    rw [this]
   ·have hk := roundShI (m : Int) (n : Int)
    rw [decide_eq_true (show (n : Int) > 0 by omega), decide_eq_true (show ¬ (n : Int) = 0 by omega)] at hk
    exact SEB.of_KP (A := A) (B0 := Bb) (e := .normal) hmix hnum hp (.none _) hB hk rfl
 ·cases h
theorem loopSh {Bb : Heap} (hB : Bb.length = 8) : ∀ (Y X : Nat), (itoa (X : Int)).length < 2 ^ 24 → (itoa (Y : Int)).length < 2 ^ 24 →
  ∃ e s', SEB prog A Bb (.loop bodySh) (stSh X Y) e s' ∧ ((e = .ret ∧ s' = stShE (itoa (X.gcd Y : Nat))) ∨ (e = .exit 0 ∧ s' = stSh (X.gcd Y) 0)) := by
 have hp := pR18_ok hT hG
 have hblk : BlkOK prog A (oneB 2 hookShI) bodySh := BlkOK.one (body := .loop bodyShI) (by kernel_rfl) fun ρ B e ρ' B' D hq => (hookShI_ok hT hG ρ B e ρ' B' D hq).2
 intro Y
 induction Y using Nat.strongRecOn with
 | _ Y ih =>
  intro X hX hY
  have hk := roundSh (itoa (X : Nat)) (itoa (Y : Nat))
  by_cases h0 : Y = 0
  ·subst h0
   rw [show (!(itoa ((0 : Nat) : Int) == [48])) = false by rw [itoa_is0]; rfl, brK_f] at hk
   rw [Nat.gcd_zero_right]
   exact ⟨.exit 0, _, SEB.loop_exit (SEB.of_KP (A := A) (B0 := Bb) (e := .exit 0) hmix hnum hp hblk hB hk rfl) (by simp), .inr ⟨rfl, rfl⟩⟩
  ·rw [show (!(itoa ((Y : Nat) : Int) == [48])) = true by rw [itoa_is0, decide_eq_false (by omega)]; rfl, brK_t, propB_true ⟨isZ_itoa _, isZ_itoa _⟩, brK_t] at hk
   have hg : Y.gcd (X % Y) = X.gcd Y := by rw [Nat.gcd_comm, ← Nat.gcd_rec, Nat.gcd_comm]
   have hmod := Nat.mod_lt X (Nat.pos_of_ne_zero h0)
   cases hbr : brOK (itoa (X : Nat)) (itoa (Y : Nat)) with
   | true =>
    obtain ⟨b1, b2⟩ := brOK_lt (isZ_itoa _) (isZ_itoa _) hbr
    rw [dvalZ_itoa, Int.natAbs_natCast] at b1 b2
    have hgl : X.gcd Y ≤ Y := Nat.gcd_le_right _ (Nat.pos_of_ne_zero h0)
    rw [hbr, brK_t, cond_true, cond_true, dvalZ_itoa, dvalZ_itoa, propB_true ⟨by omega, by omega⟩, brK_t, Int.toNat_natCast, Int.toNat_natCast] at hk
    dsimp only at hk
    rw [propB_true ⟨rfl, by omega, by omega⟩] at hk
    exact ⟨.ret, _, SEB.loop_exit (SEB.of_KP (A := A) (B0 := Bb) (e := .ret) hmix hnum hp hblk hB hk rfl) (by simp), .inl ⟨rfl, rfl⟩⟩
   | false =>
    have hfm : ((X : Int)).fmod (Y : Int) = ((X % Y : Nat) : Int) := by rw [Int.fmod_eq_emod_of_nonneg _ (by omega)]; rfl
    rw [hbr, brK_f, dvalZ_itoa, dvalZ_itoa, propB_true ⟨⟨isZ_itoa _, hX⟩, ⟨isZ_itoa _, hY⟩, by omega⟩, brK_t, hfm] at hk
    have hs := SEB.of_KP (A := A) (B0 := Bb) (e := .normal) hmix hnum hp hblk hB hk rfl
    obtain ⟨e, s', l1, l2⟩ := ih (X % Y) hmod Y hY (Nat.lt_of_le_of_lt (len_mono (Nat.mod_le _ _)) hX)
    rw [hg] at l2
    exact ⟨e, s', SEB.loop_next hs l1, l2⟩
end
theorem runSh0 (a b : List UInt8) : execK prog (runK prog pR18 60) noBps h0' ([.sstr a, .sstr b] ++ List.replicate 41 aundef) (Bg 8) (nrmP exSh 8 []) = some (.normal, [.s a, .s b]) := by kernel_rfl
theorem runSh1 (a b : List UInt8) : execK prog (runK prog pR18 60) noBps h1' (spSh.rho [.s a, .s b]) (spSh.heap [.s a, .s b]) (nrmP exSh 8 []) =
  brK (decide (1 + (absT a).length < 4611686018427387904)) (brK (decide (1 + (absT b).length < 4611686018427387904)) (some (.normal, [.s (sgnT (absT a) false), .s (sgnT (absT b) false)])) none) none := by kernel_rfl
theorem runSh3 (a b : List UInt8) : execK prog (runK prog pR18 60) noBps h3' (spSh.rho [.s a, .s b]) (spSh.heap [.s a, .s b]) (nrmP exSh 8 []) = some (.ret, [.s a]) := by kernel_rfl
section
variable {A : Amb} (hT : Tab A) (hG : prog.globals.size ≤ A.G)
include hT hG
theorem sebSh {a b : List UInt8} (ha : zOKp a) (hb : zOKp b) : SEB prog A (Bg 8) code115 ⟨[.sstr a, .sstr b] ++ List.replicate 41 aundef, Bg 8, []⟩ .ret (stShE (itoa (Int.gcd (dvalZ a) (dvalZ b) : Nat))) := by
 have hp := pR18_ok hT hG
 have hB : (Bg 8).length = 8 := rfl
 rw [code115_eq]
 refine SEB.seq (SEB.of_KP (A := A) (e := .normal) hmix hnum hp (.none _) hB (runSh0 a b) rfl) ?_
 have k1 := runSh1 a b
 have la := (absT_len1 a).1
 have lb := (absT_len1 b).1
 have la2 := ha.2
 have lb2 := hb.2
 rw [decide_eq_true (show 1 + (absT a).length < 4611686018427387904 by omega), decide_eq_true (show 1 + (absT b).length < 4611686018427387904 by omega), show sgnT (absT a) false = absT a from rfl, show sgnT (absT b) false = absT b from rfl,
  isZ_abs ha.1, isZ_abs hb.1] at k1
 refine SEB.seq (SEB.of_KP (A := A) (e := .normal) hmix hnum hp (.none _) hB k1 rfl) ?_
 rw [isZ_abs ha.1] at la
 rw [isZ_abs hb.1] at lb
 obtain ⟨e, s', l1, l2⟩ := loopSh hT hG hB (dvalZ b).natAbs (dvalZ a).natAbs (by omega) (by omega)
 rw [h2_eq]
 rcases l2 with ⟨rfl, rfl⟩ | ⟨rfl, rfl⟩
 ·exact SEB.seq_exit (SEB.block_other l1 (by simp)) (by simp)
 ·refine SEB.seq (SEB.block_exit l1) ?_
  exact SEB.of_KP (A := A) (e := .ret) hmix hnum hp (.none _) hB (runSh3 _ _) rfl
end
noncomputable def T115 : List Lf → Tr (SP × List Lf)
 | [.s a, .s b] => .br (propB (zOKp a ∧ zOKp b)) (.leaf (spS1, [.s (itoa (Int.gcd (dvalZ a) (dvalZ b) : Nat))])) .fail
 | _ => .fail
noncomputable def pSh (a b x : List UInt8) : Prims := pR18.addh 115 (gPin [.sstr a, .sstr b] (Bg 8) (.sstr x) (Bg 8) [])
theorem runSh (a b x : List UInt8) : (runK prog (pSh a b x) 60).call 115 (spSS.rho [.s a, .s b]) (spSS.heap [.s a, .s b]) (finP spS1 8 []) =
  brK (propB (([.sstr a, .sstr b] : List AV) = [.sstr a, .sstr b] ∧ Bg 8 = Bg 8)) (some [.s x]) none := by kernel_rfl
noncomputable def pR19 : Prims := pR18.addh 115 (liftG 8 (funP spSS 8 [] T115))
theorem pR19_ok {A : Amb} (hT : Tab A) (hG : prog.globals.size ≤ A.G) : PrimOK prog A pR19 := by
 refine (pR18_ok hT hG).addl gsz func115 (by kernel_rfl) (funP_ok hmix hnum rfl fun ls sq l h => ?_)
 unfold T115 at h
 split at h
 ·rename_i a b
  obtain ⟨hc, hv⟩ := Tr.br1 h
  cases hv
  obtain ⟨ha, hb⟩ := propB_eq hc
  refine ⟨⟨.inr rfl, .inr rfl, .inr rfl, .inr rfl, .inr rfl, .inr rfl, .inr rfl, .inr rfl, trivial⟩, rfl, rfl, pSh a b (itoa (Int.gcd (dvalZ a) (dvalZ b) : Nat)), 60, ?_, (runSh a b _).trans ?_⟩
  ·refine PrimOK.body (pR18_ok hT hG) func115 (show f115.body = some code115 by kernel_rfl) fun args B v B' D hq => ?_
   obtain ⟨hc1, hv⟩ := Tr.br_get0 hq
   obtain ⟨rfl, rfl⟩ := propB_eq hc1
   simp only [Tr.get, Option.some.injEq, Prod.mk.injEq] at hv
   obtain ⟨rfl, rfl, rfl⟩ := hv
   exact ⟨⟨Nat.le_refl _, fun _ _ _ => rfl⟩, [.sstr a, .sstr b], .ret, _, [.sstr (itoa (Int.gcd (dvalZ a) (dvalZ b) : Nat))], fun _ _ h => h, sebSh hT hG ha hb, by simp, rfl, rfl, rfl, rfl⟩
  ·rw [propB_true ⟨rfl, rfl⟩, brK_t]
 ·cases h
end Go.Proofs.Tryz
