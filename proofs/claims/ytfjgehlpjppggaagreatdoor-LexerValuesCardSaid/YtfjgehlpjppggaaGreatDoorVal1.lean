/- Values of numbers: Cut at a point, TrimLeft of zeros, Repeat of zeros. -/
import Derived.Test.YtfjgehlpjppggaaGreatDoorBig15
import Derived.Test.YtfjgehlpjppggaaGreatDoorAdPat
namespace Go.Proofs.Tryz
open Go.Ad
open Go.Lib (decDigits itoa nDigits)
def cutS (a : List UInt8) : List UInt8 × List UInt8 × Bool := match cutAt 46 a with
 | some (n, d) => (n, d, true)
 | none => (a, [], false)
def spSd : SP := ⟨[.str, .is (.str [46])], dd8⟩
theorem run58 (a : List UInt8) : (runK prog pBig28 60).call 58 (spSd.rho [.s a]) (spSd.heap [.s a]) (finQ spSSB 8 []) =
  brK ([46] == a) (brK (true && decide ((0 : Int) ≤ 1 ∧ (1 : Int) ≤ (a.length : Int))) (some [.s [], .s ((a.take a.length).drop 1), .b true]) none)
   (brK (decide (Lib.indexByte a (byteOf 46) ≥ 0)) (brK (decide (0 ≤ Lib.indexByte a (byteOf 46) ∧ Lib.indexByte a (byteOf 46) ≤ (a.length : Int)) && true) (brK (true && decide (0 ≤ W (Lib.indexByte a (byteOf 46) + 1) ∧ W (Lib.indexByte a (byteOf 46) + 1) ≤ (a.length : Int)))
    (some [.s ((a.take (Lib.indexByte a (byteOf 46)).toNat).drop 0), .s ((a.take a.length).drop (W (Lib.indexByte a (byteOf 46) + 1)).toNat), .b true]) none) none) (some [.s a, .s [], .b false])) := by kernel_rfl
noncomputable def T58 : List Lf → Tr (SP × List Lf)
 | [.s a] => .br (szOK a) (.leaf (spSSB, [.s (cutS a).1, .s (cutS a).2.1, .b (cutS a).2.2])) .fail
 | _ => .fail
noncomputable def pVal1 : Prims := pBig28.addh 58 (liftG 8 (funQ spSd 8 [] T58))
theorem pVal1_ok {A : Amb} (hT : Tab A) (hG : prog.globals.size ≤ A.G) : PrimOK prog A pVal1 := by
 refine (pBig28_ok hT hG).addl gsz func58 (by kernel_rfl) (funQ_ok hmix hnum rfl fun ls sq l h => ?_)
 unfold T58 at h
 split at h
 ·rename_i a
  obtain ⟨hc, hv⟩ := Tr.br1 h
  cases hv
  refine ⟨⟨.inr rfl, .inr rfl, .inr rfl, .inr rfl, .inr rfl, .inr rfl, .inr rfl, .inr rfl, trivial⟩, rfl, pBig28, 60, _, pBig28_ok hT hG, (run58 a).trans ?_, fun _ _ => .refl⟩
  have hsz : a.length < 2 ^ 62 := of_decide_eq_true hc
  have hb : byteOf 46 = 46 := by decide
  rw [hb]
  unfold cutS
  by_cases h1 : a = [46]
  ·subst h1; rfl
  ·rw [show ([46] == a) = false by rw [beq_eq_false_iff_ne]; exact fun e => h1 e.symm, brK_f]
   rcases cutAt_index 46 a with ⟨e1, e2⟩ | ⟨i, e0, e1, e2⟩
   ·rw [e1, e2]; rfl
   ·have e3 : W ((i : Int) + 1) = ((i + 1 : Nat) : Int) := by rw [W_id (by omega) (by omega)]; omega
    rw [e1, e2, e3, decide_eq_true (show (i : Int) ≥ 0 by omega), decide_eq_true (show 0 ≤ (i : Int) ∧ (i : Int) ≤ (a.length : Int) by omega), decide_eq_true (show 0 ≤ ((i + 1 : Nat) : Int) ∧ ((i + 1 : Nat) : Int) ≤ (a.length : Int) by omega),
     Int.toNat_natCast, Int.toNat_natCast, List.take_length, List.drop_zero]
    rfl
 ·cases h
noncomputable def code74 : Code := f74.body.getD .skip
noncomputable def bodyTL : Code := unLoop (findB 0 code74)
def spTL : SP := ⟨[.str, .is (.int .u8 48)] ++ dr 15, dd8⟩
theorem roundTL (a : List UInt8) : execK prog (runK prog pBig28 60) noBps bodyTL (spTL.rho [.s a]) (spTL.heap [.s a]) (nrmP (fun _ => spTL) 8 []) =
  brK (decide ((a.length : Int) > 0)) (brK (decide ((0 : Int) ≤ 0 ∧ (0 : Int) < (a.length : Int))) (brK (((a.getD 0 0).toNat : Int) == 48) (brK (true && decide ((0 : Int) ≤ 1 ∧ (1 : Int) ≤ (a.length : Int))) (some (.normal, [.s ((a.take a.length).drop 1)])) none) (some (.exit 0, [.s a]))) none) (some (.exit 0, [.s a])) := by kernel_rfl
def trimZ (a : List UInt8) : List UInt8 := a.dropWhile (· == 48)
theorem stepTL (a : List UInt8) : execK prog (runK prog pBig28 60) noBps bodyTL (spTL.rho [.s a]) (spTL.heap [.s a]) (nrmP (fun _ => spTL) 8 []) =
  match a with
  | b :: r => if b = 48 then some (.normal, [.s r]) else some (.exit 0, [.s (b :: r)])
  | [] => some (.exit 0, [.s []]) := by
 rw [roundTL]
 cases a with
 | nil => rfl
 | cons b r =>
  rw [decide_eq_true (show ((List.length (b :: r) : Nat) : Int) > 0 by simp), decide_eq_true (show (0 : Int) ≤ 0 ∧ (0 : Int) < ((List.length (b :: r) : Nat) : Int) by simp), decide_eq_true (show (0 : Int) ≤ 1 ∧ (1 : Int) ≤ ((List.length (b :: r) : Nat) : Int) by simp; omega), List.take_length]
  show brK true (brK true (brK ((b.toNat : Int) == 48) _ _) _) _ = _
  by_cases h : b = 48
  ·subst h; rfl
  ·have h2 : b.toNat ≠ 48 := fun e => h (UInt8.toNat_inj.1 e)
   rw [show ((b.toNat : Int) == 48) = false by rw [beq_eq_false_iff_ne]; omega]
   show _ = if b = 48 then _ else _
   rw [if_neg h]; rfl
noncomputable def hookTL : Blk := hookP spTL 8 [] fun
 | [.s a] => .leaf (.normal, spTL, [.s (trimZ a)])
 | _ => .fail
noncomputable def pVal2 : Prims := pVal1.addb 74 0 hookTL
theorem pVal2_ok {A : Amb} (hT : Tab A) (hG : prog.globals.size ≤ A.G) : PrimOK prog A pVal2 := by
 have hp := pBig28_ok hT hG
 refine PrimOK.addbP (pVal1_ok hT hG) func74 (show f74.body = some code74 by kernel_rfl) (body := .loop bodyTL) (by kernel_rfl) (by kernel_rfl) fun ls e sq l h => ?_
 split at h
 ·rename_i a
  cases h
  refine ⟨⟨.inr rfl, .inr rfl, .inr rfl, .inr rfl, .inr rfl, .inr rfl, .inr rfl, .inr rfl, trivial⟩, fun Bb hB => SEB.block_exit (id := 0) ?_⟩
  refine SEB.while (fun _ : List UInt8 => True) List.length (fun a => ⟨spTL.rho [.s a], spTL.heap [.s a], []⟩) (fun a => (.exit 0, ⟨spTL.rho [.s (trimZ a)], spTL.heap [.s (trimZ a)], []⟩)) (fun a _ => ?_) a trivial
  have hk := stepTL a
  cases a with
  | nil => exact .inr ⟨by simp, SEB.of_KP (A := A) (B0 := Bb) (e := .exit 0) hmix hnum hp (.none _) hB hk rfl⟩
  | cons b r =>
   simp only at hk
   by_cases hb : b = 48
   ·rw [if_pos hb] at hk
    left
    refine ⟨r, trivial, by simp, ?_, SEB.of_KP (A := A) (B0 := Bb) (e := .normal) hmix hnum hp (.none _) hB hk rfl⟩
    subst hb
    rfl
   ·rw [if_neg hb] at hk
    right
    refine ⟨by simp, ?_⟩
    have : trimZ (b :: r) = b :: r := by
     show (match (b == 48) with | true => _ | false => _) = _
     rw [show (b == 48) = false by simpa using hb]
    simp only [this]
    exact SEB.of_KP (A := A) (B0 := Bb) (e := .exit 0) hmix hnum hp (.none _) hB hk rfl
 ·cases h
theorem runRep : (List.range 25).map (fun (n : Nat) => (runK prog lib2 60).call 61 [.str [48], .int .i64 (n : Int)] (Bg 8) finV) = (List.range 25).map fun n => some (.str (List.replicate n 48)) := by kernel_rfl
noncomputable def gRep : List AV → Tr AV
 | [x, a] => match sstr? x, snum a with
  | some s, some (k, n) => .br (propB (s = [48] ∧ k = .i64) && decide (0 ≤ n ∧ n ≤ 24)) (.leaf (.sstr (List.replicate n.toNat 48))) .fail
  | _, _ => .fail
 | _ => .fail
noncomputable def pVal3 : Prims := pVal2.addt 61 gRep
theorem pVal3_ok {A : Amb} (hT : Tab A) (hG : prog.globals.size ≤ A.G) : PrimOK prog A pVal3 := by
 refine PrimOK.addt3 hmix hnum (pVal2_ok hT hG) hG func61 (by kernel_rfl) fun args v hv => ?_
 unfold gRep at hv
 split at hv
 ·rename_i x a
  split at hv
  ·rename_i s k n hs hn
   obtain ⟨hc, hv⟩ := Tr.br1 hv
   cases hv
   rw [Bool.and_eq_true, decide_eq_true_eq] at hc
   obtain ⟨hc, h0, h1⟩ := hc
   obtain ⟨rfl, rfl⟩ := propB_eq hc
   obtain ⟨n, rfl⟩ := Int.eq_ofNat_of_zero_le h0
   have hlt : n < 25 := by omega
   have hk : (runK prog lib2 60).call 61 [.str [48], .int .i64 (n : Int)] (Bg 8) finV = some (.str (List.replicate n 48)) := by
    have := congrArg (fun l => l[n]?) runRep
    simpa [List.getElem?_map, List.getElem?_range hlt] using this
   obtain ⟨B', hca⟩ := Ca.of_finV hk
   refine ⟨lib2, [.str [48], .int .i64 (n : Int)], .str (List.replicate n 48), B', lib2_ok hT, fun ι xs hx => ?_, fun ι x hx => ?_, rfl, rfl, by rw [gsz]; exact hca⟩
   ·refine VRL.weaken (show ([.str [48], .int .i64 (n : Int)] : List AV).length = [x, a].length from rfl) (fun i a' hi => ?_) hx
    match i, hi with
    | 0, hi => cases hi; exact ⟨_, rfl, fun v hv => by have := sstr_VR hs hv; simpa only [VR] using this⟩
    | 1, hi => cases hi; exact ⟨_, rfl, fun v hv => by have := snum_VR hn hv; simpa only [VR] using this⟩
    | i + 2, hi => simp at hi
   ·rw [Int.toNat_natCast]; simpa only [VR] using hx
  ·cases hv
 ·cases hv
end Go.Proofs.Tryz
namespace Go.Proofs.Tryz
open Go.Ad
open Go.Lib (decDigits itoa nDigits decFrom digitVal)
def digV (acc : Nat) (s : List UInt8) : Nat := s.foldl (fun n b => n * 10 + (b.toNat - 48)) acc
theorem decFrom_digV : ∀ (s : List UInt8) (acc : Nat), s.all isDg = true → decFrom acc s = some (digV acc s)
 | [], _, _ => rfl
 | b :: r, acc, h => by
  rw [List.all_cons, Bool.and_eq_true] at h
  have hb : 48 ≤ b.toNat ∧ b.toNat ≤ 57 := by simpa [isDg] using h.1
  have hd : digitVal b = some (b.toNat - 48) := by unfold digitVal; rw [if_pos hb]
  simp only [decFrom, hd]
  exact decFrom_digV r _ h.2
theorem dvalN_digV {s : List UInt8} (h : s.all isDg = true) : dvalN s = digV 0 s := by
 unfold dvalN
 rw [decFrom_digV s 0 h]; rfl
theorem trimZ_cons (b : UInt8) (r : List UInt8) : trimZ (b :: r) = if b = 48 then trimZ r else b :: r := by
 by_cases h : b = 48
 ·subst h; rfl
 ·rw [if_neg h]
  show (match (b == 48) with | true => _ | false => _) = _
  rw [show (b == 48) = false by simpa using h]
theorem digV_trimZ : ∀ s : List UInt8, digV 0 (trimZ s) = digV 0 s
 | [] => rfl
 | b :: r => by
  rw [trimZ_cons]
  by_cases h : b = 48
  ·rw [if_pos h, digV_trimZ r]
   subst h; rfl
  ·rw [if_neg h]
theorem trimZ_all : ∀ {s : List UInt8}, s.all isDg = true → (trimZ s).all isDg = true
 | [], _ => rfl
 | b :: r, h => by
  rw [trimZ_cons]
  by_cases hb : b = 48
  ·rw [if_pos hb]
   rw [List.all_cons, Bool.and_eq_true] at h
   exact trimZ_all h.2
  ·rw [if_neg hb]; exact h
theorem trimZ_head : ∀ {s : List UInt8}, (trimZ s).headD 0 ≠ 48
 | [] => by simp [trimZ]
 | b :: r => by
  rw [trimZ_cons]
  by_cases hb : b = 48
  ·rw [if_pos hb]; exact trimZ_head
  ·rw [if_neg hb]; exact hb
theorem trimZ_itoa {s : List UInt8} (h : s.all isDg = true) : (if trimZ s = [] then [48] else trimZ s) = itoa (digV 0 s) := by
 by_cases h0 : trimZ s = []
 ·rw [if_pos h0]
  have := digV_trimZ s
  rw [h0] at this
  rw [← this]
  exact itoa0.symm
 ·rw [if_neg h0, Lib.itoa_nonneg]
  have h1 := digits_dec _ (trimZ s) rfl h0 (trimZ_all h) (.inl trimZ_head)
  rw [dvalN_digV (trimZ_all h), digV_trimZ] at h1
  exact h1
theorem ten_itoa : ∀ k : Nat, itoa ((10 ^ k : Nat) : Int) = 49 :: List.replicate k 48
 | 0 => itoa_1
 | k + 1 => by
  have ih := ten_itoa k
  rw [Lib.itoa_nonneg] at ih ⊢
  have h10 : 10 ≤ 10 ^ (k + 1) := by rw [Nat.pow_succ]; have := Nat.pow_pos (n := k) (show 0 < 10 by decide); omega
  rw [dec_big (by omega), Nat.pow_succ, Nat.mul_div_cancel _ (by decide), ih, List.replicate_succ', List.cons_append]
  congr 2
  unfold dig
  rw [Nat.mul_mod_left]; rfl
theorem digV_lt : ∀ (s : List UInt8) (acc : Nat), s.all isDg = true → digV acc s < (acc + 1) * 10 ^ s.length
 | [], acc, _ => by show acc < _; simp
 | b :: r, acc, h => by
  rw [List.all_cons, Bool.and_eq_true] at h
  have hb : 48 ≤ b.toNat ∧ b.toNat ≤ 57 := by simpa [isDg] using h.1
  have := digV_lt r (acc * 10 + (b.toNat - 48)) h.2
  show digV (acc * 10 + (b.toNat - 48)) r < _
  rw [List.length_cons, Nat.pow_succ, Nat.mul_comm (10 ^ r.length) 10, ← Nat.mul_assoc]
  exact Nat.lt_of_lt_of_le this (Nat.mul_le_mul_right _ (by omega))
theorem isDg_cls {s : List UInt8} {i : Nat} : pCl [2] s i = isDg (s.getD i 0) := by
 unfold pCl isDg
 simp only [List.any_cons, List.any_nil, Bool.or_false]
 unfold bAt clsI
 have hlt := (s.getD i 0).toNat_lt
 by_cases h1 : 48 ≤ (s.getD i 0).toNat ∧ (s.getD i 0).toNat ≤ 57
 ·rw [if_neg (by omega), if_pos (by omega), decide_eq_true h1.1, decide_eq_true h1.2]; rfl
 ·have : (decide (48 ≤ (s.getD i 0).toNat) && decide ((s.getD i 0).toNat ≤ 57)) = false := by simpa using h1
  rw [this]
  split
  ·rfl
  ·rw [if_neg (by omega)]
   split
   ·rfl
   ·split
    ·rfl
    ·split <;> rfl
theorem lenC_tw (s : List UInt8) : lenC [2] s = (s.takeWhile isDg).length := by
 have hs := List.takeWhile_append_dropWhile (p := isDg) (l := s)
 have hle : (s.takeWhile isDg).length ≤ s.length := by
  have := congrArg List.length hs
  rw [List.length_append] at this
  omega
 unfold lenC
 refine scanN_unique (Nat.zero_le _) (by omega) (fun j _ hj => ?_) (fun hl => ?_)
 ·rw [isDg_cls]
  have hg : s.getD j 0 = (s.takeWhile isDg).getD j 0 := by
   conv => lhs; rw [← hs]
   rw [List.getD_eq_getElem?_getD, List.getD_eq_getElem?_getD, List.getElem?_append_left hj]
  rw [hg]
  have hm : (s.takeWhile isDg).getD j 0 ∈ s.takeWhile isDg := by
   rw [List.getD_eq_getElem?_getD, List.getElem?_eq_getElem hj]
   exact List.getElem_mem hj
  have hall := List.all_takeWhile (p := isDg) (l := s)
  exact List.all_eq_true.1 hall _ hm
 ·rw [isDg_cls]
  cases hd : s.dropWhile isDg with
  | nil =>
   rw [hd, List.append_nil] at hs
   rw [hs] at hl; omega
  | cons b r =>
   have hg : s.getD (s.takeWhile isDg).length 0 = b := by
    generalize s.takeWhile isDg = f at *
    rw [← hs, hd, List.getD_eq_getElem?_getD, List.getElem?_append_right (Nat.le_refl _)]
    simp
   rw [hg]
   have := List.head?_dropWhile_not (p := isDg) (l := s)
   rw [hd] at this
   simpa using this
theorem all_tw {s : List UInt8} (h : (s.takeWhile isDg).length = s.length) : s.all isDg = true := by
 have hs := List.takeWhile_append_dropWhile (p := isDg) (l := s)
 have hd : s.dropWhile isDg = [] := by
  have := congrArg List.length hs
  rw [List.length_append] at this
  exact List.eq_nil_of_length_eq_zero (by omega)
 rw [hd, List.append_nil] at hs
 rw [← hs]
 exact List.all_takeWhile
theorem no_point {s : List UInt8} (h : s.all isDg = true) : (46 : UInt8) ∉ s := fun hm => by
 have := List.all_eq_true.1 h _ hm
 exact absurd this (by decide)
structure NumS (s f b : List UInt8) : Prop where
 cut : (cutS s).1 = f ∧ (cutS s).2.1 = b
 df : f.all isDg = true
 db : b.all isDg = true
 ne : f ≠ []
 len : s.length ≤ 24
 head : 1 < f.length → f.headD 0 ≠ 48
 shape : (s = f ∧ b = []) ∨ (s = f ++ 46 :: b ∧ b ≠ [])
theorem num_shape {s : List UInt8} (h : errN s = 0) : ∃ f b, NumS s f b := by
 have hs := List.takeWhile_append_dropWhile (p := isDg) (l := s)
 have hfd : (s.takeWhile isDg).all isDg = true := List.all_takeWhile
 unfold errN at h
 split at h
 ·cases h
 ·rename_i h1
  split at h
  ·cases h
  ·rename_i h2
   rw [not_or, not_or] at h1
   obtain ⟨a1, a2, a3⟩ := h1
   have a2 : (numN s).1 = s.length := Decidable.not_not.1 a2
   unfold numN at a1 a2 a3
   rw [lenC_tw] at a1 a2 a3
   generalize hf : s.takeWhile isDg = f at *
   generalize hr : s.dropWhile isDg = r at *
   have hhead : ∀ t : List UInt8, s = f ++ t → bAt s 0 = ((f ++ t).headD 0).toNat := fun t e => by
    rw [e]; unfold bAt; cases f ++ t <;> rfl
   cases hb : (decide (0 < f.length) && (decide (f.length + 1 < s.length) && (bAt s f.length == 46 && decide (0 < lenC [2] (s.drop (f.length + 1)))))) with
   | false =>
    rw [hb] at a1 a2 a3
    simp only [cond_false] at a1 a2 a3
    have hr0 : r = [] := by
     have := congrArg List.length hs
     rw [List.length_append] at this
     exact List.eq_nil_of_length_eq_zero (by omega)
    subst hr0
    rw [List.append_nil] at hs
    subst hs
    have hne : f ≠ [] := fun e => a1 (by rw [e]; rfl)
    refine ⟨f, [], ⟨?_, hfd, rfl, hne, by omega, fun hl e => a3 ⟨hl, ?_⟩, .inl ⟨rfl, rfl⟩⟩⟩
    ·unfold cutS; rw [cutAt_none (no_point hfd)]; exact ⟨rfl, rfl⟩
    ·rw [hhead [] (List.append_nil _).symm, List.append_nil, e]; rfl
   | true =>
    rw [hb] at a1 a2 a3
    simp only [cond_true] at a1 a2 a3
    rw [Bool.and_eq_true, Bool.and_eq_true, Bool.and_eq_true, decide_eq_true_eq, decide_eq_true_eq, decide_eq_true_eq, beq_iff_eq] at hb
    obtain ⟨b1, b2, b3, b4⟩ := hb
    cases hrr : r with
    | nil => rw [hrr, List.append_nil] at hs; rw [hs] at b2; omega
    | cons c t =>
     rw [hrr] at hs
     subst hs
     have hc : c = 46 := by
      unfold bAt at b3
      rw [List.getD_eq_getElem?_getD, List.getElem?_append_right (Nat.le_refl _)] at b3
      simp at b3
      have : c.toNat = 46 := by omega
      exact UInt8.toNat_inj.1 this
     subst hc
     have hdrop : (f ++ 46 :: t).drop (f.length + 1) = t := by
      rw [List.drop_append, List.drop_eq_nil_of_le (by omega), show f.length + 1 - f.length = 1 by omega]; rfl
     rw [hdrop, lenC_tw] at a2 b4
     rw [List.length_append, List.length_cons] at a2
     have hdt := all_tw (s := t) (by omega)
     have hne : f ≠ [] := fun e => by rw [e] at b1; simp at b1
     refine ⟨f, t, ⟨?_, hfd, hdt, hne, by omega, fun hl e => a3 ⟨hl, ?_⟩, .inr ⟨rfl, fun e => ?_⟩⟩⟩
     ·unfold cutS; rw [cutAt_mk (no_point hfd)]; exact ⟨rfl, rfl⟩
     ·rw [hhead (46 :: t) rfl]
      cases f with
      | nil => exact (hne rfl).elim
      | cons x y => simp only [List.cons_append, List.headD_cons] at e ⊢; rw [e]; rfl
     ·rw [e] at b4; simp at b4
end Go.Proofs.Tryz
namespace Go.Proofs.Tryz
open Go.Ad
open Go.Lib (decDigits itoa nDigits decFrom digitVal)
noncomputable abbrev repT (x : List UInt8) (k : Nat) : Option (List Lf) :=
 brK (propB (([48] : List UInt8) = [48] ∧ IntKind.i64 = IntKind.i64) && decide (0 ≤ (k : Int) ∧ (k : Int) ≤ 24)) (brK (decide (1 + (List.replicate k (48 : UInt8)).length < 4611686018427387904)) (brK (szOK x && szOK (49 :: List.replicate k 48))
  (some [.s (makeR x (49 :: List.replicate k 48)).1, .i (makeR x (49 :: List.replicate k 48)).2]) none) none) none
noncomputable abbrev tree27 (a f b : List UInt8) : Option (List Lf) :=
 brK (szOK a) (brK (errN a != 0) (some [.s [], .i (errN a)]) (brK (szOK a) (brK (decide (f.length + b.length < 4611686018427387904)) (brK (f ++ b == []) (brK (f ++ b == []) (repT [48] b.length) (repT (f ++ b) b.length)) (brK (trimZ (f ++ b) == []) (repT [48] b.length) (repT (trimZ (f ++ b)) b.length))) none) none)) none
theorem run27 (a : List UInt8) : (runK prog (pVal3.over pE) 60).call 27 (spS1.rho [.s a]) (spS1.heap [.s a]) (finQ spRI 8 []) = tree27 a (cutS a).1 (cutS a).2.1 := by kernel_rfl
def valR (s : List UInt8) : List UInt8 × Int := if errN s ≠ 0 then ([], errN s) else (lowT (digV 0 ((cutS s).1 ++ (cutS s).2.1) : Nat) (10 ^ (cutS s).2.1.length : Nat), 0)
theorem errI_small {n : Nat} (h : n < 10 ^ 1024) : errI (itoa (n : Int)) = 0 := by
 rw [errI_itoa, Int.natAbs_natCast, if_neg]
 have := dec_len_lt h (by omega)
 omega
theorem ten_mono {a : Nat} (b : Nat) (h : a < b) : 10 ^ a < 10 ^ b := Nat.pow_lt_pow_right (by decide) h
theorem ten_lt {k : Nat} (h : k ≤ 1023) : 10 ^ k < 10 ^ 1024 := ten_mono 1024 (by omega)
theorem repT_eq {x : List UInt8} {N k : Nat} (hx : x = itoa (N : Int)) (hN : N < 10 ^ 1024) (hk : k ≤ 24) : repT x k = some [.s (lowT (N : Nat) (10 ^ k : Nat)), .i 0] := by
 unfold repT
 have e1 := errI_small hN
 have e2 := errI_small (ten_lt (k := k) (by omega))
 rw [← ten_itoa, hx, propB_true ⟨rfl, rfl⟩, decide_eq_true (show 0 ≤ (k : Int) ∧ (k : Int) ≤ 24 by omega), decide_eq_true (show 1 + (List.replicate k (48 : UInt8)).length < 4611686018427387904 by rw [List.length_replicate]; omega),
  errI_sz e1, errI_sz e2]
 have h3 : itoa ((10 ^ k : Nat) : Int) ≠ [48] := fun e => by
  rw [← itoa0] at e
  have := itoa_inj e
  have := Nat.pow_pos (n := k) (show 0 < 10 by decide)
  omega
 have hm : makeR (itoa (N : Int)) (itoa ((10 ^ k : Nat) : Int)) = (lowT (N : Nat) (10 ^ k : Nat), 0) := by
  unfold makeR
  rw [if_neg (by rw [e1]; simp), if_neg (by rw [e2]; simp), if_neg h3, dvalZ_itoa, dvalZ_itoa]
 rw [hm]; rfl
theorem NumS.small {s f b : List UInt8} (h : NumS s f b) : (f ++ b).all isDg = true ∧ (f ++ b).length ≤ 24 ∧ digV 0 (f ++ b) < 10 ^ 1024 := by
 have h1 : (f ++ b).all isDg = true := by rw [List.all_append, h.df, h.db]; rfl
 have h2 : (f ++ b).length ≤ 24 := by
  have := h.len
  rcases h.shape with ⟨e1, e2⟩ | ⟨e1, e2⟩
  ·rw [e2, List.append_nil, ← e1]; exact this
  ·rw [e1, List.length_append, List.length_cons] at this
   rw [List.length_append]; omega
 refine ⟨h1, h2, ?_⟩
 have h3 := digV_lt (f ++ b) 0 h1
 rw [Nat.zero_add, Nat.one_mul] at h3
 exact Nat.lt_trans h3 (ten_lt (by omega))
theorem tree27_eq {a : List UInt8} (h : szOK a = true) : tree27 a (cutS a).1 (cutS a).2.1 = some [.s (valR a).1, .i (valR a).2] := by
 unfold tree27 valR
 rw [h]
 by_cases h0 : errN a = 0
 ·obtain ⟨f, b, hs⟩ := num_shape h0
  rw [if_neg (by rw [h0]; simp), show (errN a != 0) = false by simpa using h0, hs.cut.1, hs.cut.2]
  obtain ⟨h1, h2, h3⟩ := hs.small
  have hne : (f ++ b == []) = false := by
   rw [beq_eq_false_iff_ne]
   intro e
   exact hs.ne (List.append_eq_nil_iff.1 e).1
  have hl : f.length + b.length ≤ 24 := by rw [← List.length_append]; exact h2
  rw [hne, decide_eq_true (show f.length + b.length < 4611686018427387904 by omega), brK_t, brK_f, brK_t, brK_t, brK_f]
  have ht := trimZ_itoa h1
  by_cases hz : trimZ (f ++ b) = []
  ·rw [if_pos hz] at ht
   rw [hz]
   exact repT_eq ht h3 (by omega)
  ·rw [if_neg hz] at ht
   rw [show (trimZ (f ++ b) == []) = false by simpa using hz]
   exact repT_eq ht h3 (by omega)
 ·rw [if_pos h0, show (errN a != 0) = true by simpa using h0]; rfl
noncomputable def T27 : List Lf → Tr (SP × List Lf)
 | [.s a] => .br (szOK a) (.leaf (spRI, [.s (valR a).1, .i (valR a).2])) .fail
 | _ => .fail
noncomputable def pVal4 : Prims := (pVal3.over pE).addh 27 (liftG 8 (funQ spS1 8 [] T27))
theorem pVal4_ok {A : Amb} (hT : Tab A) (hG : prog.globals.size ≤ A.G) : PrimOK prog A pVal4 := by
 have hp := (pVal3_ok hT hG).over (pE_ok hT hG)
 refine hp.addl gsz func27 (by kernel_rfl) (funQ_ok hmix hnum rfl fun ls sq l h => ?_)
 unfold T27 at h
 split at h
 ·rename_i a
  obtain ⟨hc, hv⟩ := Tr.br1 h
  cases hv
  exact ⟨⟨.inr rfl, .inr rfl, .inr rfl, .inr rfl, .inr rfl, .inr rfl, .inr rfl, .inr rfl, trivial⟩, rfl, pVal3.over pE, 60, _, hp, (run27 a).trans (tree27_eq hc), fun _ _ => .refl⟩
 ·cases h
end Go.Proofs.Tryz
namespace Go.Proofs.Tryz
open Go.Ad
open Go.Lib (decDigits itoa nDigits decFrom digitVal)
theorem run119 (a : List UInt8) : (runK prog lib2 60).call 119 [.sstr a] (Bg 8) finV =
  brK (!(a == [])) (brK (decide ((0 : Int) ≤ 0 ∧ (0 : Int) < (a.length : Int))) (brK (((a.getD 0 0).toNat : Int) == 45) (brK (true && decide ((0 : Int) ≤ 1 ∧ (1 : Int) ≤ (a.length : Int))) (some (.sstr ((a.take a.length).drop 1))) none) (some (.sstr a))) none) (some (.sstr a)) := by kernel_rfl
theorem absT_cons (b : UInt8) (r : List UInt8) : absT (b :: r) = if b = 45 then r else b :: r := by
 by_cases h : b = 45
 ·subst h; rfl
 ·rw [if_neg h]
  unfold absT
  split
  ·rename_i e; cases e; exact (h rfl).elim
  ·rfl
theorem byte_eq {b : UInt8} {n : Nat} {c : UInt8} (hc : c.toNat = n) : ((b.toNat : Int) == (n : Int)) = (b == c) := by
 by_cases h : b = c
 ·subst h; rw [hc]; simp
 ·have : b.toNat ≠ n := fun e => h (UInt8.toNat_inj.1 (by omega))
  rw [show (b == c) = false by simpa using h, beq_eq_false_iff_ne]
  omega
theorem run121 (a : List UInt8) : (runK prog lib2 60).call 121 [.sstr a] (Bg 8) finV = brK (decide ((0 : Int) ≤ 0 ∧ (0 : Int) < (a.length : Int))) (some (.sbool (((a.getD 0 0).toNat : Int) == 45))) none := by kernel_rfl
theorem run120 (s : List UInt8) (m : Bool) : (runK prog lib2 60).call 120 [.sstr s, .sbool m] (Bg 8) finV = brK m (brK (!(s == [48])) (brK (decide (1 + s.length < 4611686018427387904)) (some (.sstr (45 :: s))) none) (some (.sstr s))) (some (.sstr s)) := by kernel_rfl
def sgnT (s : List UInt8) (m : Bool) : List UInt8 := bif m && !(s == [48]) then 45 :: s else s
noncomputable def T119 : List Lf → Tr AV
 | [.s a] => .leaf (.sstr (absT a))
 | _ => .fail
noncomputable def T121 : List Lf → Tr AV
 | [.s a] => .br (propB (isZ a)) (.leaf (.sbool (decide (dvalZ a < 0)))) .fail
 | _ => .fail
noncomputable def T120 : List Lf → Tr AV
 | [.s a, .b m] => .br (decide (1 + a.length < 4611686018427387904)) (.leaf (.sstr (sgnT a m))) .fail
 | _ => .fail
noncomputable def pR1 : Prims := ((pVal4.addt 119 (gP [.str] T119)).addt 121 (gP [.str] T121)).addt 120 (gP [.str, .bool] T120)
section
variable {A : Amb} (hT : Tab A) (hG : prog.globals.size ≤ A.G)
include hT hG
theorem pR1_ok : PrimOK prog A pR1 := by
 refine PrimOK.addP hmix hnum (lib2_ok hT) (PrimOK.addP hmix hnum (lib2_ok hT) (PrimOK.addP hmix hnum (lib2_ok hT) (pVal4_ok hT hG) hG func119 (by kernel_rfl) fun ls v h => ?_) hG func121 (by kernel_rfl) fun ls v h => ?_) hG func120 (by kernel_rfl) fun ls v h => ?_
 ·unfold T119 at h
  split at h
  ·rename_i a
   cases h
   refine ⟨rfl, 60, .sstr (absT a), ?_, rfl, fun ι x h => h⟩
   rw [gsz]
   refine (run119 a).trans ?_
   cases a with
   | nil => rfl
   | cons b r =>
    rw [absT_cons, decide_eq_true (show (0 : Int) ≤ 0 ∧ (0 : Int) < ((List.length (b :: r) : Nat) : Int) by simp only [List.length_cons]; omega), decide_eq_true (show (0 : Int) ≤ 1 ∧ (1 : Int) ≤ ((List.length (b :: r) : Nat) : Int) by simp only [List.length_cons]; omega)]
    show brK true (brK true (brK ((b.toNat : Int) == ((45 : Nat) : Int)) _ _) _) _ = _
    rw [byte_eq (n := 45) (c := 45) rfl, List.take_length]
    by_cases hb : b = 45
    ·subst hb; rfl
    ·rw [if_neg hb, show (b == 45) = false by simpa using hb]; rfl
  ·cases h
 ·unfold T121 at h
  split at h
  ·rename_i a
   obtain ⟨hc, hv⟩ := Tr.br1 h
   cases hv
   have hz := propB_eq hc
   refine ⟨rfl, 60, .sbool (decide (dvalZ a < 0)), ?_, rfl, fun ι x h => h⟩
   rw [gsz]
   refine (run121 a).trans ?_
   unfold isZ at hz
   generalize dvalZ a = Z at *
   subst hz
   rw [itoa_pos, itoa_head]; rfl
  ·cases h
 ·unfold T120 at h
  split at h
  ·rename_i a m
   obtain ⟨hc, hv⟩ := Tr.br1 h
   cases hv
   refine ⟨rfl, 60, .sstr (sgnT a m), ?_, rfl, fun ι x h => h⟩
   rw [gsz]
   refine (run120 a m).trans ?_
   rw [hc]
   unfold sgnT
   cases m <;> cases (a == [48]) <;> rfl
  ·cases h
end
noncomputable def code154 : Code := f154.body.getD .skip
noncomputable def bodyBare : Code := unLoop (findB 0 code154)
def spBare : SP := ⟨[.str] ++ dr 13, dd8⟩
theorem roundBare (a : List UInt8) : execK prog (runK prog lib2 60) noBps bodyBare (spBare.rho [.s a]) (spBare.heap [.s a]) (nrmP (fun _ => spBare) 8 []) =
  brK (decide ((a.length : Int) > 1)) (brK (decide ((0 : Int) ≤ 0 ∧ (0 : Int) < (a.length : Int))) (brK (((a.getD 0 0).toNat : Int) == 48) (brK (true && decide ((0 : Int) ≤ 1 ∧ (1 : Int) ≤ (a.length : Int))) (some (.normal, [.s ((a.take a.length).drop 1)])) none) (some (.exit 0, [.s a]))) none) (some (.exit 0, [.s a])) := by kernel_rfl
def bareS : List UInt8 → List UInt8
 | b :: c :: r => if b = 48 then bareS (c :: r) else b :: c :: r
 | s => s
theorem stepBare (a : List UInt8) : execK prog (runK prog lib2 60) noBps bodyBare (spBare.rho [.s a]) (spBare.heap [.s a]) (nrmP (fun _ => spBare) 8 []) =
  match a with
  | b :: c :: r => if b = 48 then some (.normal, [.s (c :: r)]) else some (.exit 0, [.s (b :: c :: r)])
  | s => some (.exit 0, [.s s]) := by
 rw [roundBare]
 match a with
 | [] => rfl
 | [b] => rfl
 | b :: c :: r =>
  rw [decide_eq_true (show ((List.length (b :: c :: r) : Nat) : Int) > 1 by simp only [List.length_cons]; omega), decide_eq_true (show (0 : Int) ≤ 0 ∧ (0 : Int) < ((List.length (b :: c :: r) : Nat) : Int) by simp only [List.length_cons]; omega), decide_eq_true (show (0 : Int) ≤ 1 ∧ (1 : Int) ≤ ((List.length (b :: c :: r) : Nat) : Int) by simp only [List.length_cons]; omega), List.take_length]
  show brK true (brK true (brK ((b.toNat : Int) == ((48 : Nat) : Int)) _ _) _) _ = if b = 48 then _ else _
  rw [byte_eq (n := 48) (c := 48) rfl]
  by_cases h : b = 48
  ·subst h; rfl
  ·rw [if_neg h, show (b == 48) = false by simpa using h]; rfl
theorem bareS_eq : ∀ {s : List UInt8}, s ≠ [] → bareS s = if trimZ s = [] then [48] else trimZ s
 | [], h => (h rfl).elim
 | [b], _ => by
  rw [trimZ_cons]
  by_cases h : b = 48
  ·subst h; rfl
  ·rw [if_neg h]; rfl
 | b :: c :: r, _ => by
  rw [trimZ_cons]
  show (if b = 48 then bareS (c :: r) else b :: c :: r) = _
  by_cases h : b = 48
  ·rw [if_pos h, if_pos h]; exact bareS_eq (by simp)
  ·rw [if_neg h, if_neg h]; rfl
theorem bareS_itoa {s : List UInt8} (hn : s ≠ []) (h : s.all isDg = true) : bareS s = itoa (digV 0 s) := by rw [bareS_eq hn, trimZ_itoa h]
noncomputable def hookBare : Blk := hookP spBare 8 [] fun
 | [.s a] => .leaf (.normal, spBare, [.s (bareS a)])
 | _ => .fail
noncomputable def T154 : List Lf → Tr AV
 | [.s a] => .leaf (.sstr (bareS a))
 | _ => .fail
noncomputable def pR2b : Prims := lib2.addb 154 0 hookBare
noncomputable def pR2 : Prims := pR1.addt 154 (gP [.str] T154)
theorem run154 (a : List UInt8) : (runK prog pR2b 60).call 154 [.sstr a] (Bg 8) finV = some (.sstr (bareS a)) := by kernel_rfl
section
variable {A : Amb} (hT : Tab A) (hG : prog.globals.size ≤ A.G)
include hT hG
omit hG in
theorem pR2b_ok : PrimOK prog A pR2b := by
 have hp := lib2_ok hT
 refine PrimOK.addbP hp func154 (show f154.body = some code154 by kernel_rfl) (body := .loop bodyBare) (by kernel_rfl) (by kernel_rfl) fun ls e sq l h => ?_
 split at h
 ·rename_i a
  cases h
  refine ⟨⟨.inr rfl, .inr rfl, .inr rfl, .inr rfl, .inr rfl, .inr rfl, .inr rfl, .inr rfl, trivial⟩, fun Bb hB => SEB.block_exit (id := 0) ?_⟩
  refine SEB.while (fun _ : List UInt8 => True) List.length (fun a => ⟨spBare.rho [.s a], spBare.heap [.s a], []⟩) (fun a => (.exit 0, ⟨spBare.rho [.s (bareS a)], spBare.heap [.s (bareS a)], []⟩)) (fun a _ => ?_) a trivial
  have hk := stepBare a
  cases a with
  | nil =>
   right
   refine ⟨by simp, ?_⟩
   simp only [show bareS [] = [] from rfl]
   exact SEB.of_KP (A := A) (B0 := Bb) (e := .exit 0) hmix hnum hp (.none _) hB hk rfl
  | cons b t =>
   cases t with
   | nil =>
    right
    refine ⟨by simp, ?_⟩
    simp only [show bareS [b] = [b] from rfl]
    exact SEB.of_KP (A := A) (B0 := Bb) (e := .exit 0) hmix hnum hp (.none _) hB hk rfl
   | cons c r =>
    simp only at hk
    by_cases hb : b = 48
    ·rw [if_pos hb] at hk
     left
     refine ⟨c :: r, trivial, by simp, ?_, SEB.of_KP (A := A) (B0 := Bb) (e := .normal) hmix hnum hp (.none _) hB hk rfl⟩
     subst hb
     rfl
    ·rw [if_neg hb] at hk
     right
     refine ⟨by simp, ?_⟩
     have : bareS (b :: c :: r) = b :: c :: r := by
      show (if b = 48 then _ else _) = _
      rw [if_neg hb]
     simp only [this]
     exact SEB.of_KP (A := A) (B0 := Bb) (e := .exit 0) hmix hnum hp (.none _) hB hk rfl
 ·cases h
theorem pR2_ok : PrimOK prog A pR2 := by
 refine PrimOK.addP hmix hnum (pR2b_ok hT) (pR1_ok hT hG) hG func154 (by kernel_rfl) fun ls v h => ?_
 unfold T154 at h
 split at h
 ·rename_i a
  cases h
  exact ⟨rfl, 60, .sstr (bareS a), by rw [gsz]; exact run154 a, rfl, fun ι x h => h⟩
 ·cases h
end
end Go.Proofs.Tryz
namespace Go.Proofs.Tryz
open Go.Ad
open Go.Lib (decDigits itoa nDigits decFrom digitVal)
noncomputable def code113 : Code := f113.body.getD .skip
noncomputable def bodyCk : Code := unLoop (findB 0 code113)
def spCk : SP := ⟨dr 3 ++ [.str, .int .i64] ++ dr 38, dd8⟩
def spCkR : SP := ⟨dr 2 ++ [.is (.int .i64 3)] ++ dr 40, dd8⟩
def exCk : AEx → SP
 | .ret => spCkR
 | _ => spCk
theorem roundCk (s : List UInt8) (i : Int) : execK prog (runK prog lib2 60) noBps bodyCk (spCk.rho [.s s, .i i]) (spCk.heap [.s s, .i i]) (nrmP exCk 8 []) =
  brK (decide (i < (s.length : Int))) (brK (decide (0 ≤ i ∧ i < (s.length : Int))) (brK (decide (((s.getD i.toNat 0).toNat : Int) < 48)) (some (.ret, [])) (brK (decide (0 ≤ i ∧ i < (s.length : Int))) (brK (decide (((s.getD i.toNat 0).toNat : Int) > 57)) (some (.ret, [])) (some (.normal, [.s s, .i (W (i + 1))]))) none)) none)
   (some (.exit 0, [.s s, .i i])) := by kernel_rfl
theorem stepCk (s : List UInt8) (n : Nat) (hs : s.length < 2 ^ 62) : execK prog (runK prog lib2 60) noBps bodyCk (spCk.rho [.s s, .i n]) (spCk.heap [.s s, .i n]) (nrmP exCk 8 []) =
  if n < s.length then (if isDg (s.getD n 0) = true then some (.normal, [.s s, .i ((n + 1 : Nat) : Int)]) else some (.ret, [])) else some (.exit 0, [.s s, .i n]) := by
 rw [roundCk]
 by_cases h : n < s.length
 ·rw [if_pos h, decide_eq_true (show (n : Int) < (s.length : Int) by omega), decide_eq_true (show 0 ≤ (n : Int) ∧ (n : Int) < (s.length : Int) by omega), Int.toNat_natCast, W_id (by omega) (by omega)]
  unfold isDg
  by_cases h1 : (s.getD n 0).toNat < 48
  ·rw [decide_eq_true (show (((s.getD n 0).toNat : Nat) : Int) < 48 by omega), decide_eq_false (show ¬ 48 ≤ (s.getD n 0).toNat by omega)]; rfl
  ·rw [decide_eq_false (show ¬ (((s.getD n 0).toNat : Nat) : Int) < 48 by omega), decide_eq_true (show 48 ≤ (s.getD n 0).toNat by omega)]
   by_cases h2 : (s.getD n 0).toNat ≤ 57
   ·rw [decide_eq_false (show ¬ (((s.getD n 0).toNat : Nat) : Int) > 57 by omega), decide_eq_true h2]; rfl
   ·rw [decide_eq_true (show (((s.getD n 0).toNat : Nat) : Int) > 57 by omega), decide_eq_false h2]; rfl
 ·rw [if_neg h, decide_eq_false (show ¬ (n : Int) < (s.length : Int) by omega)]; rfl
noncomputable def hookCk : Blk := hookP spCk 8 [] fun
 | [.s s, .i i] => .br (propB (i = 0) && szOK s) (.br (s.all isDg) (.leaf (.normal, spCk, [.s s, .i s.length])) (.leaf (.ret, spCkR, []))) .fail
 | _ => .fail
theorem tw_all : ∀ {s : List UInt8}, s.all isDg = true → s.takeWhile isDg = s
 | [], _ => rfl
 | b :: r, h => by
  rw [List.all_cons, Bool.and_eq_true] at h
  rw [List.takeWhile_cons_of_pos h.1, tw_all h.2]
theorem all_iff (s : List UInt8) : s.all isDg = decide (lenC [2] s = s.length) := by
 rw [lenC_tw]
 by_cases h : (s.takeWhile isDg).length = s.length
 ·rw [decide_eq_true h, all_tw h]
 ·rw [decide_eq_false h, Bool.eq_false_iff]
  intro ha
  apply h
  rw [tw_all ha]
noncomputable def pR3b : Prims := pR2.addb 113 0 hookCk
theorem run113 (a : List UInt8) : (runK prog pR3b 60).call 113 [.sstr a] (Bg 8) finV =
  brK (absT a == []) (some (.int .i64 3)) (brK (decide ((0 : Int) ≤ 0 ∧ (0 : Int) < ((absT a).length : Int))) (brK ((((absT a).getD 0 0).toNat : Int) == 48) (brK (decide (((absT a).length : Int) > 1)) (some (.int .i64 3)) (brK (decide ((a.length : Int) > 1)) (some (.int .i64 3))
   (brK (propB ((0 : Int) = 0) && szOK (absT a)) (brK ((absT a).all isDg) (brK (decide (((absT a).length : Int) > 1024)) (some (.int .i64 11)) (some (.int .i64 0))) (some (.int .i64 3))) none)))
   (brK (propB ((0 : Int) = 0) && szOK (absT a)) (brK ((absT a).all isDg) (brK (decide (((absT a).length : Int) > 1024)) (some (.int .i64 11)) (some (.int .i64 0))) (some (.int .i64 3))) none)) none) := by kernel_rfl
section
variable {A : Amb} (hT : Tab A) (hG : prog.globals.size ≤ A.G)
include hT hG
theorem pR3b_ok : PrimOK prog A pR3b := by
 have hp := lib2_ok hT
 refine PrimOK.addbP (pR2_ok hT hG) func113 (show f113.body = some code113 by kernel_rfl) (body := .loop bodyCk) (by kernel_rfl) (by kernel_rfl) fun ls e sq l h => ?_
 split at h
 ·rename_i s i
  obtain ⟨hc, hv⟩ := Tr.br1 h
  rw [Bool.and_eq_true] at hc
  have hi := propB_eq hc.1
  have hs : s.length < 2 ^ 62 := of_decide_eq_true hc.2
  subst hi
  have key : ∀ Bb : Heap, Bb.length = 8 → SEB prog A Bb (.loop bodyCk) ⟨spCk.rho [.s s, .i 0], spCk.heap [.s s, .i 0], []⟩ (if lenC [2] s < s.length then .ret else .exit 0)
    (if lenC [2] s < s.length then ⟨spCkR.rho [], spCkR.heap [], []⟩ else ⟨spCk.rho [.s s, .i (lenC [2] s : Nat)], spCk.heap [.s s, .i (lenC [2] s : Nat)], []⟩) := fun Bb hB =>
   SEB.scan (A := A) (B0 := Bb) (c := bodyCk) (S := fun n => ⟨spCk.rho [.s s, .i (n : Nat)], spCk.heap [.s s, .i (n : Nat)], []⟩) (E := fun n => if n < s.length then ⟨spCkR.rho [], spCkR.heap [], []⟩ else ⟨spCk.rho [.s s, .i (n : Nat)], spCk.heap [.s s, .i (n : Nat)], []⟩)
    (e := fun n => if n < s.length then .ret else .exit 0) (p := pCl [2] s) (N := s.length) (fun n => by by_cases h : n < s.length <;> simp [h])
    (fun n hn hp1 => by
     have hk := stepCk s n hs
     rw [isDg_cls] at hp1
     rw [if_pos hn, if_pos hp1] at hk
     exact SEB.of_KP (A := A) (B0 := Bb) (e := .normal) hmix hnum hp (.none _) hB hk rfl)
    (fun n hn hp1 => by
     have hk := stepCk s n hs
     by_cases hlt : n < s.length
     ·have := hp1 hlt
      rw [isDg_cls] at this
      rw [if_pos hlt, if_neg (by rw [this]; simp)] at hk
      simp only [if_pos hlt]
      exact SEB.of_KP (A := A) (B0 := Bb) (e := .ret) hmix hnum hp (.none _) hB hk rfl
     ·rw [if_neg hlt] at hk
      simp only [if_neg hlt]
      exact SEB.of_KP (A := A) (B0 := Bb) (e := .exit 0) hmix hnum hp (.none _) hB hk rfl) 0 (Nat.zero_le _)
  have hle := lenC_le [2] s
  rw [all_iff] at hv
  by_cases hl : lenC [2] s = s.length
  ·rw [decide_eq_true hl] at hv
   cases hv
   refine ⟨⟨.inr rfl, .inr rfl, .inr rfl, .inr rfl, .inr rfl, .inr rfl, .inr rfl, .inr rfl, trivial⟩, fun Bb hB => SEB.block_exit (id := 0) ?_⟩
   have := key Bb hB
   rw [if_neg (by omega), if_neg (by omega), hl] at this
   exact this
  ·rw [decide_eq_false hl] at hv
   cases hv
   refine ⟨⟨.inr rfl, .inr rfl, .inr rfl, .inr rfl, .inr rfl, .inr rfl, .inr rfl, .inr rfl, trivial⟩, fun Bb hB => SEB.block_other (id := 0) ?_ (by simp)⟩
   have := key Bb hB
   rw [if_pos (by omega), if_pos (by omega)] at this
   exact this
 ·cases h
noncomputable def pR3 : Prims := pR2.addt 113 (gP [.str] (gErr errI))
omit hT hG in
theorem absT_len1 (a : List UInt8) : (absT a).length ≤ a.length ∧ ((absT a).length < a.length → ∃ r, a = 45 :: r ∧ absT a = r) := by
 cases a with
 | nil => exact ⟨Nat.le_refl _, fun h => by simp at h⟩
 | cons b r =>
  rw [absT_cons]
  by_cases h : b = 45
  ·subst h; rw [if_pos rfl]; exact ⟨by simp, fun _ => ⟨r, rfl, rfl⟩⟩
  ·rw [if_neg h]; exact ⟨Nat.le_refl _, fun h => by omega⟩
theorem pR3_ok : PrimOK prog A pR3 := by
 refine PrimOK.addP hmix hnum (pR3b_ok hT hG) (pR2_ok hT hG) hG func113 (by kernel_rfl) fun ls v h => ?_
 unfold gErr at h
 split at h
 ·rename_i a
  obtain ⟨hc, hv⟩ := Tr.br1 h
  cases hv
  have hs : a.length < 2 ^ 62 := of_decide_eq_true hc
  refine ⟨rfl, 60, .int .i64 (errI a), ?_, rfl, fun ι x h => vr_int rfl x h⟩
  rw [gsz]
  refine (run113 a).trans ?_
  obtain ⟨h1, h2⟩ := absT_len1 a
  have hsz : szOK (absT a) = true := decide_eq_true (by omega)
  rw [propB_true rfl, hsz]
  unfold errI
  by_cases h0 : absT a = []
  ·rw [if_pos (show absT a = [] ∨ (absT a).all isDg = false from .inl h0), show (absT a == []) = true by simpa using h0]; rfl
  ·have hpos : 0 < (absT a).length := by cases hh : absT a with | nil => exact (h0 hh).elim | cons => simp
   have hg : (absT a).getD 0 0 = (absT a).headD 0 := by cases absT a <;> rfl
   rw [show (absT a == []) = false by simpa using h0, brK_f, decide_eq_true (show (0 : Int) ≤ 0 ∧ (0 : Int) < ((absT a).length : Int) by omega), brK_t, hg]
   have htail : brK (true && true) (brK ((absT a).all isDg) (brK (decide (((absT a).length : Int) > 1024)) (some (AV.int .i64 11)) (some (.int .i64 0))) (some (.int .i64 3))) none =
     some (AV.int .i64 (if (absT a).all isDg = false then 3 else if (absT a).length > 1024 then 11 else 0)) := by
    cases (absT a).all isDg with
    | false => rfl
    | true =>
     by_cases hh : (absT a).length > 1024
     ·rw [decide_eq_true (show ((absT a).length : Int) > 1024 by omega)]; simp only [if_pos hh]; rfl
     ·rw [decide_eq_false (show ¬ ((absT a).length : Int) > 1024 by omega)]; simp only [if_neg hh]; rfl
   rw [htail]
   have hd : (((absT a).headD 0).toNat : Int) == 48 ↔ (absT a).headD 0 = 48 := by
    have := byte_eq (b := (absT a).headD 0) (n := 48) (c := 48) rfl
    show ((((absT a).headD 0).toNat : Int) == ((48 : Nat) : Int)) = true ↔ _
    rw [this]; simp
   by_cases h3 : (absT a).headD 0 = 48
   ·rw [hd.2 h3, brK_t]
    by_cases h4 : a = [48]
    ·subst h4; rfl
    ·have h5 : (absT a).length > 1 ∨ a.length > 1 := by
      rcases Nat.lt_or_ge 1 (absT a).length with h | h
      ·exact .inl h
      ·right
       rcases Nat.lt_or_ge (absT a).length a.length with h6 | h6
       ·omega
       ·exfalso
        apply h4
        have h7 : a.length = 1 := by omega
        obtain ⟨b, rfl⟩ := List.length_eq_one_iff.1 h7
        rw [absT_cons] at h3 h0
        by_cases hb : b = 45
        ·subst hb; exact (h0 rfl).elim
        ·rw [if_neg hb] at h3
         have h3 : b = 48 := h3
         rw [h3]
     have h8 : (if absT a = [] ∨ (absT a).all isDg = false then (3 : Int) else if (absT a).headD 0 = 48 ∧ a ≠ [48] then 3 else if (absT a).length > 1024 then 11 else 0) = 3 := by
      split
      ·rfl
      ·rw [if_pos ⟨h3, h4⟩]
     rw [h8]
     rcases h5 with h | h
     ·rw [decide_eq_true (show ((absT a).length : Int) > 1 by omega)]; rfl
     ·by_cases h9 : (absT a).length > 1
      ·rw [decide_eq_true (show ((absT a).length : Int) > 1 by omega)]; rfl
      ·rw [decide_eq_false (show ¬ ((absT a).length : Int) > 1 by omega), decide_eq_true (show (a.length : Int) > 1 by omega)]; rfl
   ·rw [show ((((absT a).headD 0).toNat : Int) == 48) = false by rw [Bool.eq_false_iff]; exact fun e => h3 (hd.1 e), brK_f]
    simp only [h0, false_or, h3, false_and, if_false]
 ·cases h
end
end Go.Proofs.Tryz
