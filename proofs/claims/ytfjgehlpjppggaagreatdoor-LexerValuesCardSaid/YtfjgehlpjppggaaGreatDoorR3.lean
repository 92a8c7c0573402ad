/- The reference's numbers: digits with zeros in front, columns, sums and differences on paper. -/
import Derived.Test.YtfjgehlpjppggaaGreatDoorVal1
import Derived.Test.YtfjgehlpjppggaaGreatDoorAdRat
namespace Go.Proofs.Tryz
open Go.Ad
open Go.Lib (decDigits itoa nDigits decFrom digitVal)
theorem digV_W (acc : Nat) (s : List UInt8) : digV acc s = digW acc s := rfl
noncomputable def code167 : Code := f167.body.getD .skip
noncomputable def bodyWd : Code := unLoop (findB 0 code167)
def spWd : SP := ⟨[.str, .int .i64] ++ dr 3 ++ [.row 8, .int .i64] ++ dr 20, dd8 ++ [.arr [] .u8 5]⟩
def lfWd (s : List UInt8) (n : Int) (k : Nat) (i : Int) (m : Nat) (f : Nat → Int) : List Lf := [.s s, .i n, .n k, .i i, .n m, .f f]
theorem roundWd (s : List UInt8) (n : Int) (k : Nat) (i : Int) (m : Nat) (f : Nat → Int) : execK prog (runK prog lib2 60) noBps bodyWd (spWd.rho (lfWd s n k i m f)) (spWd.heap (lfWd s n k i m f)) (nrmP (fun _ => spWd) 9 [8]) =
  brK (decide (i < n)) (brK (decide (0 ≤ i ∧ i < (k : Int)) && decide (0 ≤ 0)) (brK (decide (0 + i.toNat < m)) (some (.normal, lfWd s n k (W (i + 1)) m (updF f (0 + i.toNat) 48))) none) none) (some (.exit 0, lfWd s n k i m f)) := by kernel_rfl
def fillF (i : Nat) : Nat → Int := fun x => if x < i then 48 else 0
theorem fillF_succ (i : Nat) : updF (fillF i) i 48 = fillF (i + 1) := by
 funext x
 unfold updF fillF
 by_cases h : x = i
 ·subst h; rw [if_pos rfl, if_pos (by omega)]
 ·rw [if_neg h]
  by_cases h2 : x < i
  ·rw [if_pos h2, if_pos (by omega)]
  ·rw [if_neg h2, if_neg (by omega)]
noncomputable def hookWd : Blk := hookP spWd 9 [8] fun
 | [.s s, .i n, .n k, .i i, .n m, .f f] => .br (propB (i = 0 ∧ n = (k : Int) ∧ m = k ∧ (f = fun _ => 0)) && decide (k < 2147483648)) (.leaf (.normal, spWd, lfWd s n k n m (fillF k))) .fail
 | _ => .fail
noncomputable def pR4b : Prims := pR3.addb 167 0 hookWd
abbrev txtF (k : Nat) (f : Nat → Int) : List UInt8 := (List.range k).map fun x => UInt8.ofNat (f (0 + x)).toNat
theorem run167 (s : List UInt8) (n : Int) : (runK prog pR4b 60).call 167 [.sstr s, .sint .i64 n] (Bg 8) finV =
  brK (decide (0 ≤ n ∧ n = n ∧ n < 2147483648)) (brK (propB ((0 : Int) = 0 ∧ n = (n.toNat : Int) ∧ n.toNat = n.toNat ∧ ((fun _ => 0 : Nat → Int) = fun _ => 0)) && decide (n.toNat < 2147483648))
   (brK (true && decide (0 ≤ W (n - (s.length : Int)) ∧ W (n - (s.length : Int)) ≤ (n.toNat : Int))) (brK (true && (decide (0 ≤ 0 + (W (n - (s.length : Int))).toNat) && decide (0 + (W (n - (s.length : Int))).toNat + (n.toNat - (W (n - (s.length : Int))).toNat) ≤ n.toNat)))
    (brK (decide (0 ≤ 0) && decide (0 + n.toNat ≤ n.toNat)) (some (.sstr (txtF n.toNat (copyF (fillF n.toNat) (0 + (W (n - (s.length : Int))).toNat) (min s.length (n.toNat - (W (n - (s.length : Int))).toNat)) fun x => ((s.getD x 0).toNat : Int))))) none) none) none) none) none := by kernel_rfl
theorem wide_text {s : List UInt8} {k : Nat} (h : s.length ≤ k) : txtF k (copyF (fillF k) (k - s.length) s.length fun x => ((s.getD x 0).toNat : Int)) = List.replicate (k - s.length) 48 ++ s := by
 apply List.ext_getElem
 ·simp; omega
 ·intro i h1 h2
  have hi : i < k := by simpa [txtF] using h1
  unfold txtF
  rw [List.getElem_map, List.getElem_range, Nat.zero_add]
  unfold copyF
  by_cases hlt : i < k - s.length
  ·rw [decide_eq_false (show ¬ k - s.length ≤ i by omega), List.getElem_append_left (by simp; exact hlt)]
   simp [fillF, hi]
  ·rw [decide_eq_true (show k - s.length ≤ i by omega), decide_eq_true (show i < k - s.length + s.length by omega), List.getElem_append_right (by simp; omega)]
   simp only [Bool.and_self, cond_true, Int.toNat_natCast, List.length_replicate]
   rw [List.getD_eq_getElem?_getD, List.getElem?_eq_getElem (by omega)]
   apply UInt8.toNat_inj.1
   simp
noncomputable def T167 : List Lf → Tr AV
 | [.s s, .i n] => .br (decide (n < 2147483648) && decide ((s.length : Int) ≤ n)) (.leaf (.sstr (List.replicate (n.toNat - s.length) 48 ++ s))) .fail
 | _ => .fail
noncomputable def pR4 : Prims := pR3.addt 167 (gP [.str, .int .i64] T167)
section
variable {A : Amb} (hT : Tab A) (hG : prog.globals.size ≤ A.G)
include hT hG
theorem pR4b_ok : PrimOK prog A pR4b := by
 have hp := lib2_ok hT
 refine PrimOK.addbP (pR3_ok hT hG) func167 (show f167.body = some code167 by kernel_rfl) (body := .loop bodyWd) (by kernel_rfl) (by kernel_rfl) fun ls e sq l h => ?_
 split at h
 ·rename_i s n k i m f
  obtain ⟨hc, hv⟩ := Tr.br1 h
  cases hv
  rw [Bool.and_eq_true, decide_eq_true_eq] at hc
  obtain ⟨rfl, rfl, rfl, rfl⟩ := propB_eq hc.1
  have hk := hc.2
  refine ⟨⟨.inr rfl, .inr rfl, .inr rfl, .inr rfl, .inr rfl, .inr rfl, .inr rfl, .inr rfl, .inl rfl, trivial⟩, fun Bb hB => SEB.block_exit (id := 0) ?_⟩
  have e0 : (fun _ => 0 : Nat → Int) = fillF 0 := by funext x; unfold fillF; rw [if_neg (by omega)]
  rw [e0]
  refine SEB.loop_nat (A := A) (B0 := Bb) (c := bodyWd) (I := fun i => ⟨spWd.rho (lfWd s m m i m (fillF i)), spWd.heap (lfWd s m m i m (fillF i)), [8]⟩) (N := m) (fun i hi => ?_) ?_ (by simp) (i := 0) (Nat.zero_le _)
  ·have hr := roundWd s m m i m (fillF i)
   rw [decide_eq_true (show (i : Int) < (m : Int) by omega), decide_eq_true (show 0 ≤ (i : Int) ∧ (i : Int) < (m : Int) by omega), Int.toNat_natCast, Nat.zero_add, decide_eq_true hi, fillF_succ, W_id (by omega) (by omega)] at hr
   exact SEB.of_KP (A := A) (B0 := Bb) (e := .normal) hmix hnum hp (.none _) hB hr rfl
  ·have hr := roundWd s m m m m (fillF m)
   rw [decide_eq_false (show ¬ (m : Int) < (m : Int) by omega)] at hr
   exact SEB.of_KP (A := A) (B0 := Bb) (e := .exit 0) hmix hnum hp (.none _) hB hr rfl
 ·cases h
theorem pR4_ok : PrimOK prog A pR4 := by
 refine PrimOK.addP hmix hnum (pR4b_ok hT hG) (pR3_ok hT hG) hG func167 (by kernel_rfl) fun ls v h => ?_
 unfold T167 at h
 split at h
 ·rename_i s n
  obtain ⟨hc, hv⟩ := Tr.br1 h
  cases hv
  rw [Bool.and_eq_true, decide_eq_true_eq, decide_eq_true_eq] at hc
  obtain ⟨h1, h2⟩ := hc
  refine ⟨rfl, 60, .sstr (List.replicate (n.toNat - s.length) 48 ++ s), ?_, rfl, fun ι x h => h⟩
  rw [gsz]
  refine (run167 s n).trans ?_
  obtain ⟨k, rfl⟩ : ∃ k : Nat, n = k := ⟨n.toNat, by omega⟩
  have e1 : W ((k : Int) - (s.length : Int)) = ((k - s.length : Nat) : Int) := by rw [W_id (by omega) (by omega)]; omega
  rw [e1, Int.toNat_natCast, Int.toNat_natCast, decide_eq_true (show 0 ≤ (k : Int) ∧ (k : Int) = (k : Int) ∧ (k : Int) < 2147483648 by omega), propB_true ⟨rfl, rfl, rfl, rfl⟩, decide_eq_true (show k < 2147483648 by omega),
   decide_eq_true (show 0 ≤ ((k - s.length : Nat) : Int) ∧ ((k - s.length : Nat) : Int) ≤ (k : Int) by omega), Nat.zero_add, decide_eq_true (show 0 ≤ k - s.length by omega), decide_eq_true (show k - s.length + (k - (k - s.length)) ≤ k by omega),
   Nat.zero_add, decide_eq_true (show k ≤ k by omega), show min s.length (k - (k - s.length)) = s.length by omega, wide_text (by omega)]
  rfl
 ·cases h
end
theorem run168 (c d e : Int) (ad : Bool) : (runK prog lib2 60).call 168 [.rng .u8 c 48 57, .rng .u8 d 48 57, .rng .i64 e 0 1, .sbool ad] (Bg 8) finV =
  brK ad (brK (decide (c - 48 + (d - 48) + e > 9)) (some (.tuple [.rng .u8 (48 + (c - 48 + (d - 48) + e) - 10) 38 57, .int .i64 1])) (some (.tuple [.rng .u8 (48 + (c - 48 + (d - 48) + e)) 48 67, .int .i64 0])))
   (brK (decide (c - 48 - (d - 48) - e < 0)) (some (.tuple [.rng .u8 (48 + (c - 48 - (d - 48) - e) + 10) 48 67, .int .i64 1])) (some (.tuple [.rng .u8 (48 + (c - 48 - (d - 48) - e)) 38 57, .int .i64 0]))) := by kernel_rfl
noncomputable def gCol : List AV → Tr AV
 | [x, y, z, w] => match snum x, snum y, snum z, sbool? w with
  | some (k1, c), some (k2, d), some (k3, e), some b => .br (propB (k1 = .u8 ∧ k2 = .u8 ∧ k3 = .i64) && decide ((48 ≤ c ∧ c ≤ 57) ∧ (48 ≤ d ∧ d ≤ 57) ∧ (0 ≤ e ∧ e ≤ 1))) (.leaf (.tuple [.sint .u8 (colR c d e b).1, .sint .i64 (colR c d e b).2])) .fail
  | _, _, _, _ => .fail
 | _ => .fail
theorem vr_tup2 {ι : Emb} {a b a' b' : AV} (h1 : ∀ v, VR ι a v → VR ι a' v) (h2 : ∀ v, VR ι b v → VR ι b' v) (x : Value) (h : VR ι (.tuple [a, b]) x) : VR ι (.tuple [a', b']) x := by
 simp only [VR] at h ⊢
 obtain ⟨ys, rfl, hv⟩ := h
 refine ⟨ys, rfl, VRL.weaken (show [a', b'].length = [a, b].length from rfl) (fun i a1 hi => ?_) hv⟩
 match i, hi with
 | 0, hi => cases hi; exact ⟨_, rfl, h1⟩
 | 1, hi => cases hi; exact ⟨_, rfl, h2⟩
 | i + 2, hi => simp at hi
theorem vr_rngS {ι : Emb} {k : IntKind} {n m lo hi : Int} (e : n = m) (x : Value) (h : VR ι (.rng k n lo hi) x) : VR ι (.sint k m) x := by
 subst e
 simp only [VR] at h ⊢
 exact h.1
noncomputable def pR5 : Prims := pR4.addt 168 gCol
theorem pR5_ok {A : Amb} (hT : Tab A) (hG : prog.globals.size ≤ A.G) : PrimOK prog A pR5 := by
 refine PrimOK.addt3 hmix hnum (pR4_ok hT hG) hG func168 (by kernel_rfl) fun args v hv => ?_
 unfold gCol at hv
 split at hv
 ·rename_i x y z w
  split at hv
  ·rename_i k1 c k2 d k3 e b hx hy hz hw
   obtain ⟨hc, hv⟩ := Tr.br1 hv
   cases hv
   rw [Bool.and_eq_true, decide_eq_true_eq] at hc
   obtain ⟨rfl, rfl, rfl⟩ := propB_eq hc.1
   obtain ⟨b1, b2, b3⟩ := hc.2
   have harg : ∀ (ι : Emb) (xs : List Value), VRL ι [x, y, z, w] xs → VRL ι [.rng .u8 c 48 57, .rng .u8 d 48 57, .rng .i64 e 0 1, .sbool b] xs := fun ι xs hxs => by
    refine VRL.weaken (show ([.rng .u8 c 48 57, .rng .u8 d 48 57, .rng .i64 e 0 1, .sbool b] : List AV).length = [x, y, z, w].length from rfl) (fun i a' hi => ?_) hxs
    match i, hi with
    | 0, hi => cases hi; exact ⟨_, rfl, fun v hv => by simp only [VR]; exact ⟨snum_VR hx hv, b1⟩⟩
    | 1, hi => cases hi; exact ⟨_, rfl, fun v hv => by simp only [VR]; exact ⟨snum_VR hy hv, b2⟩⟩
    | 2, hi => cases hi; exact ⟨_, rfl, fun v hv => by simp only [VR]; exact ⟨snum_VR hz hv, b3⟩⟩
    | 3, hi => cases hi; exact ⟨_, rfl, fun v hv => by simp only [VR]; exact sbool_VR hw hv⟩
    | i + 4, hi => simp at hi
   have fin : ∀ v', (runK prog lib2 60).call 168 [.rng .u8 c 48 57, .rng .u8 d 48 57, .rng .i64 e 0 1, .sbool b] (Bg 8) finV = some v' → below 0 v' = true → (∀ ι x, VR ι v' x → VR ι (.tuple [.sint .u8 (colR c d e b).1, .sint .i64 (colR c d e b).2]) x) → _ := fun v' g1 g2 g3 =>
    let ⟨B', hca⟩ := Ca.of_finV g1
    (⟨lib2, _, v', B', lib2_ok hT, harg, g3, rfl, g2, by rw [gsz]; exact hca⟩ : ∃ prims0 args' v' B', PrimOK prog A prims0 ∧ (∀ (ι : Emb) (xs : List Value), VRL ι [x, y, z, w] xs → VRL ι args' xs) ∧ (∀ (ι : Emb) (x : Value), VR ι v' x → VR ι (.tuple [.sint .u8 (colR c d e b).1, .sint .i64 (colR c d e b).2]) x) ∧ belowL 0 args' = true ∧ below 0 v' = true ∧ Ca prog prims0 168 args' (Bg prog.globals.size) (v', B', []))
   have hk := run168 c d e b
   unfold colR at fin
   cases b with
   | true =>
    by_cases h1 : c - 48 + (d - 48) + e > 9
    ·rw [decide_eq_true h1] at hk
     refine fin _ hk rfl fun ι x => ?_
     simp only [cond_true, if_pos h1]
     exact vr_tup2 (fun v => vr_rngS rfl v) (fun v => vr_int rfl v) x
    ·rw [decide_eq_false h1] at hk
     refine fin _ hk rfl fun ι x => ?_
     simp only [cond_true, if_neg h1]
     exact vr_tup2 (fun v => vr_rngS rfl v) (fun v => vr_int rfl v) x
   | false =>
    by_cases h1 : c - 48 - (d - 48) - e < 0
    ·rw [decide_eq_true h1] at hk
     refine fin _ hk rfl fun ι x => ?_
     simp only [cond_false, if_pos h1]
     exact vr_tup2 (fun v => vr_rngS rfl v) (fun v => vr_int rfl v) x
    ·rw [decide_eq_false h1] at hk
     refine fin _ hk rfl fun ι x => ?_
     simp only [cond_false, if_neg h1]
     exact vr_tup2 (fun v => vr_rngS rfl v) (fun v => vr_int rfl v) x
  ·cases hv
 ·cases hv
end Go.Proofs.Tryz
namespace Go.Proofs.Tryz
open Go.Ad
open Go.Lib (decDigits itoa nDigits decFrom digitVal)
noncomputable def code141 : Code := f141.body.getD .skip
noncomputable def bodyPp : Code := unLoop (findB 0 code141)
def spPp : SP := ⟨[.str, .str, .bool] ++ dr 4 ++ [.int .i64, .row 8, .int .i64, .int .i64] ++ dr 38, dd8 ++ [.arr [] .u8 5]⟩
def lfPp (a b : List UInt8) (ad : Bool) (n : Int) (k : Nat) (c i : Int) (m : Nat) (f : Nat → Int) : List Lf := [.s a, .s b, .b ad, .i n, .n k, .i c, .i i, .n m, .f f]
theorem roundPp (a b : List UInt8) (ad : Bool) (n : Int) (k : Nat) (c i : Int) (m : Nat) (f : Nat → Int) :
  execK prog (runK prog pR5 60) noBps bodyPp (spPp.rho (lfPp a b ad n k c i m f)) (spPp.heap (lfPp a b ad n k c i m f)) (nrmP (fun _ => spPp) 9 [8]) =
  brK (decide (i ≥ 0)) (brK (decide (0 ≤ i ∧ i < (a.length : Int))) (brK (decide (0 ≤ i ∧ i < (b.length : Int)))
   (brK (propB (IntKind.u8 = .u8 ∧ IntKind.u8 = .u8 ∧ IntKind.i64 = .i64) && decide ((48 ≤ ((a.getD i.toNat 0).toNat : Int) ∧ ((a.getD i.toNat 0).toNat : Int) ≤ 57) ∧ (48 ≤ ((b.getD i.toNat 0).toNat : Int) ∧ ((b.getD i.toNat 0).toNat : Int) ≤ 57) ∧ (0 ≤ c ∧ c ≤ 1)))
    (brK (decide (0 ≤ i ∧ i < (k : Int)) && decide (0 ≤ 0)) (brK (decide (0 + i.toNat < m))
     (some (.normal, lfPp a b ad n k (colR ((a.getD i.toNat 0).toNat : Int) ((b.getD i.toNat 0).toNat : Int) c ad).2 (W (i - 1)) m (updF f (0 + i.toNat) (colR ((a.getD i.toNat 0).toNat : Int) ((b.getD i.toNat 0).toNat : Int) c ad).1))) none) none) none) none) none)
   (some (.exit 0, lfPp a b ad n k c i m f)) := by kernel_rfl
def lfPj (ad : Bool) (A B n j : Nat) : List Lf := lfPp (pad n A) (pad n B) ad n n (cF ad A B j : Nat) ((n : Int) - 1 - j) n (outF n (sumN ad A B) j)
theorem stepPp {ad : Bool} {A B n j : Nat} (h : ad = false → B ≤ A) (hn : n < 2147483648) (hj : j < n) :
  execK prog (runK prog pR5 60) noBps bodyPp (spPp.rho (lfPj ad A B n j)) (spPp.heap (lfPj ad A B n j)) (nrmP (fun _ => spPp) 9 [8]) = some (.normal, lfPj ad A B n (j + 1)) := by
 unfold lfPj
 have hi : (n : Int) - 1 - (j : Int) = ((n - 1 - j : Nat) : Int) := by omega
 have hc := cF_le ad A B j
 rw [roundPp, hi, Int.toNat_natCast, pad_length, pad_length, pad_get n A _ (by omega), pad_get n B _ (by omega), show n - 1 - (n - 1 - j) = j by omega, col_step h, Nat.zero_add, outF_succ hj,
  decide_eq_true (show ((n - 1 - j : Nat) : Int) ≥ 0 by omega), decide_eq_true (show 0 ≤ ((n - 1 - j : Nat) : Int) ∧ ((n - 1 - j : Nat) : Int) < (n : Int) by omega), propB_true ⟨rfl, rfl, rfl⟩,
  decide_eq_true (show (48 ≤ ((48 + A / 10 ^ j % 10 : Nat) : Int) ∧ ((48 + A / 10 ^ j % 10 : Nat) : Int) ≤ 57) ∧ (48 ≤ ((48 + B / 10 ^ j % 10 : Nat) : Int) ∧ ((48 + B / 10 ^ j % 10 : Nat) : Int) ≤ 57) ∧ (0 ≤ ((cF ad A B j : Nat) : Int) ∧ ((cF ad A B j : Nat) : Int) ≤ 1) by omega),
  decide_eq_true (show n - 1 - j < n by omega), W_id (by omega) (by omega)]
 have h2 : ((n - 1 - j : Nat) : Int) - 1 = (n : Int) - 1 - ((j + 1 : Nat) : Int) := by omega
 rw [h2]
 rfl
noncomputable def hookPp : Blk := hookP spPp 9 [8] fun
 | [.s a, .s b, .b ad, .i n, .n k, .i c, .i i, .n m, .f f] =>
  .br (propB (n = (m : Int) ∧ k = m ∧ c = 0 ∧ i = (m : Int) - 1 ∧ (f = fun _ => 0) ∧ a = pad m (digW 0 a) ∧ b = pad m (digW 0 b) ∧ (ad = false → digW 0 b ≤ digW 0 a)) && decide (m < 2147483648)) (.leaf (.normal, spPp, lfPj ad (digW 0 a) (digW 0 b) m m)) .fail
 | _ => .fail
noncomputable def pR6b : Prims := pR5.addb 141 0 hookPp
theorem pR6b_ok {A : Amb} (hT : Tab A) (hG : prog.globals.size ≤ A.G) : PrimOK prog A pR6b := by
 have hp := pR5_ok hT hG
 refine PrimOK.addbP hp func141 (show f141.body = some code141 by kernel_rfl) (body := .loop bodyPp) (by kernel_rfl) (by kernel_rfl) fun ls e sq l h => ?_
 split at h
 ·rename_i a b ad n k c i m f
  obtain ⟨hc, hv⟩ := Tr.br1 h
  cases hv
  rw [Bool.and_eq_true, decide_eq_true_eq] at hc
  obtain ⟨rfl, rfl, rfl, rfl, rfl, ha, hb, hle⟩ := propB_eq hc.1
  have hm := hc.2
  refine ⟨⟨.inr rfl, .inr rfl, .inr rfl, .inr rfl, .inr rfl, .inr rfl, .inr rfl, .inr rfl, .inl rfl, trivial⟩, fun Bb hB => SEB.block_exit (id := 0) ?_⟩
  generalize digW 0 a = X at *
  generalize digW 0 b = Y at *
  subst ha hb
  have e0 : ([.s (pad k X), .s (pad k Y), .b ad, .i (k : Int), .n k, .i 0, .i ((k : Int) - 1), .n k, .f fun _ => 0] : List Lf) = lfPj ad X Y k 0 := by
   unfold lfPj lfPp
   rw [cF_zero, outF_zero]
   simp
  rw [e0]
  refine SEB.loop_nat (A := A) (B0 := Bb) (c := bodyPp) (I := fun j => ⟨spPp.rho (lfPj ad X Y k j), spPp.heap (lfPj ad X Y k j), [8]⟩) (N := k)
   (fun j hj => SEB.of_KP (A := A) (B0 := Bb) (e := .normal) hmix hnum hp (.none _) hB (stepPp hle hm hj) rfl) ?_ (by simp) (i := 0) (Nat.zero_le _)
  have hr : execK prog (runK prog pR5 60) noBps bodyPp (spPp.rho (lfPj ad X Y k k)) (spPp.heap (lfPj ad X Y k k)) (nrmP (fun _ => spPp) 9 [8]) = some (.exit 0, lfPj ad X Y k k) := by
   unfold lfPj
   rw [roundPp, decide_eq_false (show ¬ (k : Int) - 1 - (k : Int) ≥ 0 by omega)]
   rfl
  exact SEB.of_KP (A := A) (B0 := Bb) (e := .exit 0) hmix hnum hp (.none _) hB hr rfl
 ·cases h
noncomputable abbrev tree141 (a b : List UInt8) (ad : Bool) (n : Int) (a' b' : List UInt8) : Option AV :=
 brK (decide (n < 2147483648) && decide ((a.length : Int) ≤ n)) (brK (decide (n < 2147483648) && decide ((b.length : Int) ≤ n)) (brK (decide (0 ≤ n ∧ n = n ∧ n < 2147483648))
  (brK (propB (n = (n.toNat : Int) ∧ n.toNat = n.toNat ∧ (0 : Int) = 0 ∧ W (n - 1) = (n.toNat : Int) - 1 ∧ ((fun _ => 0 : Nat → Int) = fun _ => 0) ∧ a' = pad n.toNat (digW 0 a') ∧ b' = pad n.toNat (digW 0 b') ∧ (ad = false → digW 0 b' ≤ digW 0 a')) && decide (n.toNat < 2147483648))
   (brK (decide (0 ≤ 0) && decide (0 + n.toNat ≤ n.toNat)) (some (.sstr (bareS (txtF n.toNat (outF n.toNat (sumN ad (digW 0 a') (digW 0 b')) n.toNat))))) none) none) none) none) none
abbrev nPp (a b : List UInt8) : Int := W ((if (b.length : Int) > (a.length : Int) then (b.length : Int) else (a.length : Int)) + 1)
theorem run141 (a b : List UInt8) (ad : Bool) : (runK prog pR6b 60).call 141 [.sstr a, .sstr b, .sbool ad] (Bg 8) finV =
  tree141 a b ad (nPp a b) (List.replicate ((nPp a b).toNat - a.length) 48 ++ a) (List.replicate ((nPp a b).toNat - b.length) 48 ++ b) := by kernel_rfl
theorem digW_zeros (k : Nat) (s : List UInt8) : digW 0 (List.replicate k 48 ++ s) = digW 0 s := by
 induction k with
 | zero => rfl
 | succ k ih => rw [List.replicate_succ, List.cons_append]; exact ih
theorem pad_wide {s : List UInt8} {n : Nat} (h : s.all isDg = true) (hl : s.length ≤ n) : List.replicate (n - s.length) 48 ++ s = pad n (digW 0 s) := by
 have := pad_of n (List.replicate (n - s.length) 48 ++ s) (by rw [List.length_append, List.length_replicate]; omega) (by
  rw [List.all_append, h, Bool.and_true, List.all_eq_true]
  intro b hb
  rw [List.eq_of_mem_replicate hb]; rfl)
 rw [digW_zeros] at this
 exact this
noncomputable def T141 : List Lf → Tr AV
 | [.s a, .s b, .b ad] => .br (propB (a.all isDg = true ∧ b.all isDg = true ∧ a.length < 2 ^ 30 ∧ b.length < 2 ^ 30 ∧ (ad = false → digW 0 b ≤ digW 0 a))) (.leaf (.sstr (itoa (sumN ad (digW 0 a) (digW 0 b) : Nat)))) .fail
 | _ => .fail
noncomputable def pR6 : Prims := pR5.addt 141 (gP [.str, .str, .bool] T141)
theorem digW_lt (s : List UInt8) (h : s.all isDg = true) : digW 0 s < 10 ^ s.length := by
 have := digV_lt s 0 h
 rwa [Nat.zero_add, Nat.one_mul] at this
theorem tree141_eq {a b : List UInt8} {ad : Bool} (ha : a.all isDg = true) (hb : b.all isDg = true) (la : a.length < 2 ^ 30) (lb : b.length < 2 ^ 30) (hle : ad = false → digW 0 b ≤ digW 0 a) :
  tree141 a b ad (nPp a b) (List.replicate ((nPp a b).toNat - a.length) 48 ++ a) (List.replicate ((nPp a b).toNat - b.length) 48 ++ b) = some (.sstr (itoa (sumN ad (digW 0 a) (digW 0 b) : Nat))) := by
 obtain ⟨k, hk, k1, k2⟩ : ∃ k : Nat, nPp a b = ((k + 1 : Nat) : Int) ∧ a.length ≤ k ∧ b.length ≤ k ∧ k < 2 ^ 30 := by
  refine ⟨max a.length b.length, ?_, by omega, by omega, by omega⟩
  unfold nPp
  split <;> (rw [W_id (by omega) (by omega)]; omega)
 rw [hk, Int.toNat_natCast, pad_wide ha (by omega), pad_wide hb (by omega)]
 have lA := Nat.lt_of_lt_of_le (digW_lt a ha) (Nat.pow_le_pow_right (n := 10) (by decide) k1)
 have lB := Nat.lt_of_lt_of_le (digW_lt b hb) (Nat.pow_le_pow_right (n := 10) (by decide) k2.1)
 generalize digW 0 a = X at *
 generalize digW 0 b = Y at *
 have hX : X < 10 ^ (k + 1) := by rw [Nat.pow_succ]; omega
 have hY : Y < 10 ^ (k + 1) := by rw [Nat.pow_succ]; omega
 have hS : sumN ad X Y < 10 ^ (k + 1) := by
  unfold sumN
  rw [Nat.pow_succ]
  cases ad <;> simp only [cond_true, cond_false] <;> omega
 unfold tree141
 rw [Int.toNat_natCast, digW_pad, digW_pad, Nat.mod_eq_of_lt hX, Nat.mod_eq_of_lt hY, decide_eq_true (show ((k + 1 : Nat) : Int) < 2147483648 by omega), decide_eq_true (show (a.length : Int) ≤ ((k + 1 : Nat) : Int) by omega), decide_eq_true (show (b.length : Int) ≤ ((k + 1 : Nat) : Int) by omega),
  decide_eq_true (show 0 ≤ ((k + 1 : Nat) : Int) ∧ ((k + 1 : Nat) : Int) = ((k + 1 : Nat) : Int) ∧ ((k + 1 : Nat) : Int) < 2147483648 by omega), decide_eq_true (show k + 1 < 2147483648 by omega), decide_eq_true (show 0 + (k + 1) ≤ k + 1 by omega),
  propB_true ⟨rfl, rfl, rfl, by rw [W_id (by omega) (by omega)], rfl, rfl, rfl, hle⟩]
 have ht : txtF (k + 1) (outF (k + 1) (sumN ad X Y) (k + 1)) = pad (k + 1) (sumN ad X Y) := by
  rw [← outF_text]
  unfold txtF
  simp only [Nat.zero_add]
 rw [ht, bareS_itoa (by intro e; have := pad_length (k + 1) (sumN ad X Y); rw [e] at this; simp at this) (pad_all _ _), digV_W, digW_pad, Nat.mod_eq_of_lt hS]
 rfl
theorem pR6_ok {A : Amb} (hT : Tab A) (hG : prog.globals.size ≤ A.G) : PrimOK prog A pR6 := by
 refine PrimOK.addP hmix hnum (pR6b_ok hT hG) (pR5_ok hT hG) hG func141 (by kernel_rfl) fun ls v h => ?_
 unfold T141 at h
 split at h
 ·rename_i a b ad
  obtain ⟨hc, hv⟩ := Tr.br1 h
  cases hv
  obtain ⟨ha, hb, la, lb, hle⟩ := propB_eq hc
  exact ⟨rfl, 60, _, by rw [gsz]; exact (run141 a b ad).trans (tree141_eq ha hb la lb hle), rfl, fun ι x h => h⟩
 ·cases h
end Go.Proofs.Tryz
namespace Go.Proofs.Tryz
open Go.Ad
open Go.Lib (decDigits itoa nDigits decFrom digitVal)
theorem wrap8 {n : Int} (h0 : 0 ≤ n) (h1 : n ≤ 255) : IntKind.u8.wrap n = n := by
 have e : (2 : Int) ^ IntKind.u8.bits = 256 := by decide
 unfold IntKind.wrap
 simp only [e, show IntKind.u8.signed = false from rfl, Bool.false_and, Bool.false_eq_true, if_false]
 omega
theorem W_nat {n : Nat} (h : n ≤ 2 ^ 62) : W (n : Int) = n := W_id (by omega) (by omega)
theorem wrap8_nat {n : Nat} (h : n ≤ 255) : IntKind.u8.wrap (n : Int) = n := wrap8 (by omega) (by omega)
theorem dgI {s : List UInt8} (h : s.all isDg = true) {i : Nat} (hi : i < s.length) : IntKind.u8.wrap (((s.getD i 0).toNat : Int) - 48) = (dg s i : Nat) := by
 unfold dg
 rw [List.getD_eq_getElem?_getD, List.getElem?_eq_getElem hi]
 have := List.all_eq_true.1 h _ (List.getElem_mem hi)
 have hb : 48 ≤ (s[i]).toNat ∧ (s[i]).toNat ≤ 57 := by simpa [isDg] using this
 simp only [Option.getD_some]
 rw [wrap8 (by omega) (by omega)]; omega
noncomputable def code123 : Code := f123.body.getD .skip
noncomputable def bodyPi : Code := unLoop (findB 2 code123)
noncomputable def bodyPo : Code := unLoop (findB 0 code123)
noncomputable def bodyPc : Code := unLoop (findB 4 code123)
def spPi : SP := ⟨[.str, .str] ++ dr 3 ++ [.row 8, .int .i64, .int .i64] ++ dr 69, dd8 ++ [.arr [] .i64 3]⟩
def spPo : SP := ⟨[.str, .str] ++ dr 3 ++ [.row 8, .int .i64] ++ dr 70, dd8 ++ [.arr [] .i64 3]⟩
def spPc : SP := ⟨dr 5 ++ [.row 8] ++ dr 2 ++ [.row 9, .int .i64, .int .i64] ++ dr 66, dd8 ++ [.arr [] .i64 3, .arr [] .u8 5]⟩
def lfPi (a b : List UInt8) (kk : Nat) (i k : Int) (m : Nat) (f : Nat → Int) : List Lf := [.s a, .s b, .n kk, .i i, .i k, .n m, .f f]
def lfPo (a b : List UInt8) (kk : Nat) (i : Int) (m : Nat) (f : Nat → Int) : List Lf := [.s a, .s b, .n kk, .i i, .n m, .f f]
def lfPc (kk k2 : Nat) (c i : Int) (m : Nat) (f : Nat → Int) (m2 : Nat) (g : Nat → Int) : List Lf := [.n kk, .n k2, .i c, .i i, .n m, .f f, .n m2, .f g]
abbrev plI (i k : Int) : Int := W (W (i + k) + 1)
theorem roundPi (a b : List UInt8) (kk : Nat) (i k : Int) (m : Nat) (f : Nat → Int) : execK prog (runK prog lib2 60) noBps bodyPi (spPi.rho (lfPi a b kk i k m f)) (spPi.heap (lfPi a b kk i k m f)) (nrmP (fun _ => spPi) 9 [8]) =
  brK (decide (k < (b.length : Int))) (brK (decide (0 ≤ plI i k ∧ plI i k < (kk : Int)) && decide (0 ≤ 0)) (brK (decide (0 + (plI i k).toNat < m)) (brK (decide (0 ≤ i ∧ i < (a.length : Int))) (brK (decide (0 ≤ k ∧ k < (b.length : Int))) (brK (decide (0 ≤ plI i k ∧ plI i k < (kk : Int)) && decide (0 ≤ 0)) (brK (decide (0 + (plI i k).toNat < m))
   (some (.normal, lfPi a b kk i (W (k + 1)) m (updF f (0 + (plI i k).toNat) (W (f (0 + (plI i k).toNat) + W (W (IntKind.u8.wrap (((a.getD i.toNat 0).toNat : Int) - 48)) * W (IntKind.u8.wrap (((b.getD k.toNat 0).toNat : Int) - 48)))))))) none) none) none) none) none) none)
   (some (.exit 2, lfPi a b kk i k m f)) := by kernel_rfl
def castF (g : Nat → Nat) : Nat → Int := fun x => ((g x : Nat) : Int)
theorem castF_add (g : Nat → Nat) (i v : Nat) : updF (castF g) i (((g i + v : Nat) : Int)) = castF (addG g i v) := by
 funext x
 unfold updF castF addG
 by_cases h : x = i
 ·rw [if_pos h, if_pos h]
 ·rw [if_neg h, if_neg h]
theorem stepPi {a b : List UInt8} {i k : Nat} (ha : a.all isDg = true) (hb : b.all isDg = true) (la : a.length < 2 ^ 29) (lb : b.length < 2 ^ 29) (hi : i < a.length) (hk : k < b.length) :
  execK prog (runK prog lib2 60) noBps bodyPi (spPi.rho (lfPi a b (a.length + b.length) i k (a.length + b.length) (castF (rowG b (dg a i) i (colG a b i) k)))) (spPi.heap (lfPi a b (a.length + b.length) i k (a.length + b.length) (castF (rowG b (dg a i) i (colG a b i) k)))) (nrmP (fun _ => spPi) 9 [8]) =
  some (.normal, lfPi a b (a.length + b.length) i (k + 1 : Nat) (a.length + b.length) (castF (rowG b (dg a i) i (colG a b i) (k + 1)))) := by
 have e1 : plI (i : Int) (k : Int) = ((i + k + 1 : Nat) : Int) := by unfold plI; rw [W_id (n := (i : Int) + k) (by omega) (by omega), W_id (by omega) (by omega)]; omega
 have d1 := dg_le ha i
 have d2 := dg_le hb k
 have hm := Nat.mul_le_mul d1 d2
 have hg := row_le (d := dg a i) (i := i) hb d1 (g := colG a b i) (M := 81 * i) (col_le ha hb i) k (i + k + 1)
 rw [roundPi, e1, Int.toNat_natCast, Int.toNat_natCast, Int.toNat_natCast, Nat.zero_add, dgI ha hi, dgI hb hk, W_id (n := ((dg a i : Nat) : Int)) (by omega) (by omega), W_id (n := ((dg b k : Nat) : Int)) (by omega) (by omega), ← Int.natCast_mul,
  W_id (n := ((dg a i * dg b k : Nat) : Int)) (by omega) (by omega)]
 have e2 : castF (rowG b (dg a i) i (colG a b i) k) (i + k + 1) = ((rowG b (dg a i) i (colG a b i) k (i + k + 1) : Nat) : Int) := rfl
 rw [e2, ← Int.natCast_add, W_nat (n := rowG b (dg a i) i (colG a b i) k (i + k + 1) + dg a i * dg b k) (by omega), castF_add, W_id (by omega) (by omega), decide_eq_true (show (k : Int) < (b.length : Int) by omega), decide_eq_true (show 0 ≤ ((i + k + 1 : Nat) : Int) ∧ ((i + k + 1 : Nat) : Int) < ((a.length + b.length : Nat) : Int) by omega),
  decide_eq_true (show i + k + 1 < a.length + b.length by omega), decide_eq_true (show 0 ≤ (i : Int) ∧ (i : Int) < (a.length : Int) by omega), decide_eq_true (show 0 ≤ (k : Int) ∧ (k : Int) < (b.length : Int) by omega)]
 rfl
noncomputable def hookPi : Blk := hookP spPi 9 [8] fun
 | [.s a, .s b, .n kk, .i i, .i k, .n m, .f f] =>
  .br (propB (k = 0 ∧ 0 ≤ i ∧ i < (a.length : Int) ∧ kk = a.length + b.length ∧ m = a.length + b.length ∧ f = castF (colG a b i.toNat) ∧ a.all isDg = true ∧ b.all isDg = true ∧ a.length < 2 ^ 29 ∧ b.length < 2 ^ 29)) (.leaf (.normal, spPi, lfPi a b (a.length + b.length) i b.length (a.length + b.length) (castF (colG a b (i.toNat + 1))))) .fail
 | _ => .fail
theorem roundPo (a b : List UInt8) (kk : Nat) (i : Int) (m : Nat) (f : Nat → Int) : execK prog (runK prog lib2 60) (oneB 2 hookPi) bodyPo (spPo.rho (lfPo a b kk i m f)) (spPo.heap (lfPo a b kk i m f)) (nrmP (fun _ => spPo) 9 [8]) =
  brK (decide (i < (a.length : Int))) (brK (propB ((0 : Int) = 0 ∧ 0 ≤ i ∧ i < (a.length : Int) ∧ kk = a.length + b.length ∧ m = a.length + b.length ∧ f = castF (colG a b i.toNat) ∧ a.all isDg = true ∧ b.all isDg = true ∧ a.length < 2 ^ 29 ∧ b.length < 2 ^ 29))
   (some (.normal, lfPo a b (a.length + b.length) (W (i + 1)) (a.length + b.length) (castF (colG a b (i.toNat + 1))))) none) (some (.exit 0, lfPo a b kk i m f)) := by kernel_rfl
theorem roundPc (kk k2 : Nat) (c i : Int) (m : Nat) (f : Nat → Int) (m2 : Nat) (g : Nat → Int) : execK prog (runK prog lib2 60) noBps bodyPc (spPc.rho (lfPc kk k2 c i m f m2 g)) (spPc.heap (lfPc kk k2 c i m f m2 g)) (nrmP (fun _ => spPc) 10 [9]) =
  brK (decide (i ≥ 0)) (brK (decide (0 ≤ i ∧ i < (kk : Int)) && decide (0 ≤ 0)) (brK (decide (0 + i.toNat < m)) (brK (decide (0 ≤ i ∧ i < (k2 : Int)) && decide (0 ≤ 0)) (brK (decide (0 + i.toNat < m2))
   (some (.normal, lfPc kk k2 (W ((W (c + f (0 + i.toNat))).tdiv 10)) (W (i - 1)) m f m2 (updF g (0 + i.toNat) (IntKind.u8.wrap (W (48 + (W (c + f (0 + i.toNat))).tmod 10)))))) none) none) none) none)
   (some (.exit 4, lfPc kk k2 c i m f m2 g)) := by kernel_rfl
def lfPcj (g : Nat → Nat) (L j : Nat) : List Lf := lfPc L L (tW g L j / 10 ^ j : Nat) ((L : Int) - 1 - j) L (castF g) L (outF L (hW g L) j)
theorem stepPc {g : Nat → Nat} {L j : Nat} (hg : ∀ x, g x ≤ 2 ^ 40) (hL : L < 2147483648) (hj : j < L) :
  execK prog (runK prog lib2 60) noBps bodyPc (spPc.rho (lfPcj g L j)) (spPc.heap (lfPcj g L j)) (nrmP (fun _ => spPc) 10 [9]) = some (.normal, lfPcj g L (j + 1)) := by
 unfold lfPcj
 have hi : (L : Int) - 1 - (j : Int) = ((L - 1 - j : Nat) : Int) := by omega
 have hc := tW_le (L := L) hg j
 have hx := hg (L - 1 - j)
 have hd := tW_digit g L j hj
 have hn := tW_next g L j
 have e2 : castF g (L - 1 - j) = ((g (L - 1 - j) : Nat) : Int) := rfl
 rw [roundPc, hi, Int.toNat_natCast, Nat.zero_add, e2, ← Int.natCast_add, W_nat (n := tW g L j / 10 ^ j + g (L - 1 - j)) (by omega)]
 have e3 : (((tW g L j / 10 ^ j + g (L - 1 - j) : Nat) : Int)).tdiv 10 = (((tW g L j / 10 ^ j + g (L - 1 - j)) / 10 : Nat) : Int) := by
  rw [Int.tdiv_eq_ediv_of_nonneg (Int.natCast_nonneg _)]; rfl
 have e4 : (((tW g L j / 10 ^ j + g (L - 1 - j) : Nat) : Int)).tmod 10 = (((tW g L j / 10 ^ j + g (L - 1 - j)) % 10 : Nat) : Int) := by
  rw [Int.tmod_eq_emod_of_nonneg (Int.natCast_nonneg _)]; rfl
 rw [e3, e4, hd, hn]
 have hlt : hW g L / 10 ^ j % 10 < 10 := Nat.mod_lt _ (by decide)
 have hcn := tW_le (L := L) hg (j + 1)
 have e5 : (48 : Int) + ((hW g L / 10 ^ j % 10 : Nat) : Int) = ((48 + hW g L / 10 ^ j % 10 : Nat) : Int) := by omega
 rw [e5, W_nat (n := 48 + hW g L / 10 ^ j % 10) (by omega), wrap8_nat (n := 48 + hW g L / 10 ^ j % 10) (by omega), outF_succ hj, W_nat (n := tW g L (j + 1) / 10 ^ (j + 1)) (by omega), W_id (by omega) (by omega),
  decide_eq_true (show ((L - 1 - j : Nat) : Int) ≥ 0 by omega), decide_eq_true (show 0 ≤ ((L - 1 - j : Nat) : Int) ∧ ((L - 1 - j : Nat) : Int) < (L : Int) by omega), decide_eq_true (show L - 1 - j < L by omega)]
 have h2 : ((L - 1 - j : Nat) : Int) - 1 = (L : Int) - 1 - ((j + 1 : Nat) : Int) := by omega
 rw [h2]
 rfl
noncomputable def hookPo : Blk := hookP spPo 9 [8] fun
 | [.s a, .s b, .n kk, .i i, .n m, .f f] =>
  .br (propB (i = 0 ∧ kk = a.length + b.length ∧ m = a.length + b.length ∧ (f = fun _ => 0) ∧ a.all isDg = true ∧ b.all isDg = true ∧ a.length < 2 ^ 29 ∧ b.length < 2 ^ 29)) (.leaf (.normal, spPo, lfPo a b (a.length + b.length) a.length (a.length + b.length) (castF (colG a b a.length)))) .fail
 | _ => .fail
noncomputable def hookPc (g : Nat → Nat) : Blk := hookP spPc 10 [9] fun
 | [.n kk, .n k2, .i c, .i i, .n m, .f f, .n m2, .f h] =>
  .br (propB (kk = m ∧ k2 = m ∧ c = 0 ∧ i = (m : Int) - 1 ∧ m2 = m ∧ f = castF g ∧ (h = fun _ => 0) ∧ m < 2147483648 ∧ ∀ x, g x ≤ 2 ^ 40)) (.leaf (.normal, spPc, lfPcj g m m)) .fail
 | _ => .fail
noncomputable def pR7b (g : Nat → Nat) : Prims := (pR6.addb 123 0 hookPo).addb 123 4 (hookPc g)
section
variable {A : Amb} (hT : Tab A) (hG : prog.globals.size ≤ A.G)
include hT hG
omit hG in
theorem hookPi_ok : ∀ ρ B e' ρ' B' D, (hookPi ρ B).get = some (e', ρ', B', D) → AFr B B' D ∧ SEB prog A B (.block 2 (.loop bodyPi)) ⟨ρ, B, []⟩ e' ⟨ρ', B', D⟩ := by
 have hp := lib2_ok hT
 refine hookP_ok rfl fun ls e sq l h => ?_
 split at h
 ·rename_i a b kk i k m f
  obtain ⟨hc, hv⟩ := Tr.br1 h
  cases hv
  obtain ⟨rfl, hi, hi2, rfl, rfl, rfl, ha, hb, la, lb⟩ := propB_eq hc
  obtain ⟨i, rfl⟩ := Int.eq_ofNat_of_zero_le hi
  rw [Int.toNat_natCast]
  refine ⟨⟨.inr rfl, .inr rfl, .inr rfl, .inr rfl, .inr rfl, .inr rfl, .inr rfl, .inr rfl, .inl rfl, trivial⟩, fun Bb hB => SEB.block_exit (id := 2) ?_⟩
  refine SEB.loop_nat (A := A) (B0 := Bb) (c := bodyPi) (I := fun k => ⟨spPi.rho (lfPi a b (a.length + b.length) i k (a.length + b.length) (castF (rowG b (dg a i) i (colG a b i) k))), spPi.heap (lfPi a b (a.length + b.length) i k (a.length + b.length) (castF (rowG b (dg a i) i (colG a b i) k))), [8]⟩) (N := b.length)
   (fun k hk => SEB.of_KP (A := A) (B0 := Bb) (e := .normal) hmix hnum hp (.none _) hB (stepPi ha hb la lb (by omega) hk) rfl) ?_ (by simp) (i := 0) (Nat.zero_le _)
  have hr := roundPi a b (a.length + b.length) i b.length (a.length + b.length) (castF (colG a b (i + 1)))
  rw [decide_eq_false (show ¬ (b.length : Int) < (b.length : Int) by omega)] at hr
  exact SEB.of_KP (A := A) (B0 := Bb) (e := .exit 2) hmix hnum hp (.none _) hB hr rfl
 ·cases h
theorem pR7b_ok (g : Nat → Nat) : PrimOK prog A (pR7b g) := by
 have hp := lib2_ok hT
 have hblk : BlkOK prog A (oneB 2 hookPi) bodyPo := BlkOK.one (body := .loop bodyPi) (by kernel_rfl) fun ρ B e ρ' B' D hq => (hookPi_ok hT ρ B e ρ' B' D hq).2
 refine PrimOK.addbP (PrimOK.addbP (pR6_ok hT hG) func123 (show f123.body = some code123 by kernel_rfl) (body := .loop bodyPo) (by kernel_rfl) (by kernel_rfl) fun ls e sq l h => ?_) func123 (show f123.body = some code123 by kernel_rfl) (body := .loop bodyPc) (by kernel_rfl) (by kernel_rfl) fun ls e sq l h => ?_
 ·split at h
  ·rename_i a b kk i m f
   obtain ⟨hc, hv⟩ := Tr.br1 h
   cases hv
   obtain ⟨rfl, rfl, rfl, rfl, ha, hb, la, lb⟩ := propB_eq hc
   refine ⟨⟨.inr rfl, .inr rfl, .inr rfl, .inr rfl, .inr rfl, .inr rfl, .inr rfl, .inr rfl, .inl rfl, trivial⟩, fun Bb hB => SEB.block_exit (id := 0) ?_⟩
   have e0 : (fun _ => 0 : Nat → Int) = castF (colG a b 0) := rfl
   rw [e0]
   refine SEB.loop_nat (A := A) (B0 := Bb) (c := bodyPo) (I := fun i => ⟨spPo.rho (lfPo a b (a.length + b.length) i (a.length + b.length) (castF (colG a b i))), spPo.heap (lfPo a b (a.length + b.length) i (a.length + b.length) (castF (colG a b i))), [8]⟩) (N := a.length) (fun i hi => ?_) ?_ (by simp) (i := 0) (Nat.zero_le _)
   ·have hr := roundPo a b (a.length + b.length) i (a.length + b.length) (castF (colG a b i))
    rw [Int.toNat_natCast, decide_eq_true (show (i : Int) < (a.length : Int) by omega), propB_true ⟨rfl, by omega, by omega, rfl, rfl, rfl, ha, hb, la, lb⟩, W_id (by omega) (by omega)] at hr
    exact SEB.of_KP (A := A) (B0 := Bb) (e := .normal) hmix hnum hp hblk hB hr rfl
   ·have hr := roundPo a b (a.length + b.length) a.length (a.length + b.length) (castF (colG a b a.length))
    rw [decide_eq_false (show ¬ (a.length : Int) < (a.length : Int) by omega)] at hr
    exact SEB.of_KP (A := A) (B0 := Bb) (e := .exit 0) hmix hnum hp hblk hB hr rfl
  ·cases h
 ·split at h
  ·rename_i k1 k2 c i m f m2 g2
   obtain ⟨hc, hv⟩ := Tr.br1 h
   cases hv
   obtain ⟨rfl, rfl, rfl, rfl, rfl, rfl, rfl, hL, hg⟩ := propB_eq hc
   refine ⟨⟨.inr rfl, .inr rfl, .inr rfl, .inr rfl, .inr rfl, .inr rfl, .inr rfl, .inr rfl, .inr rfl, .inl rfl, trivial⟩, fun Bb hB => SEB.block_exit (id := 4) ?_⟩
   have e0 : ∀ L : Nat, ([.n L, .n L, .i 0, .i ((L : Int) - 1), .n L, .f (castF g), .n L, .f fun _ => 0] : List Lf) = lfPcj g L 0 := fun L => by
    unfold lfPcj lfPc
    rw [outF_zero]
    simp [tW]
   rw [e0]
   refine SEB.loop_nat (A := A) (B0 := Bb) (c := bodyPc) (I := fun j => ⟨spPc.rho (lfPcj g m2 j), spPc.heap (lfPcj g m2 j), [9]⟩) (N := m2) (fun j hj => SEB.of_KP (A := A) (B0 := Bb) (e := .normal) hmix hnum hp (.none _) hB (stepPc hg hL hj) rfl) ?_ (by simp) (i := 0) (Nat.zero_le _)
   have hr : execK prog (runK prog lib2 60) noBps bodyPc (spPc.rho (lfPcj g m2 m2)) (spPc.heap (lfPcj g m2 m2)) (nrmP (fun _ => spPc) 10 [9]) = some (.exit 4, lfPcj g m2 m2) := by
    unfold lfPcj
    rw [roundPc, decide_eq_false (show ¬ (m2 : Int) - 1 - (m2 : Int) ≥ 0 by omega)]
    rfl
   exact SEB.of_KP (A := A) (B0 := Bb) (e := .exit 4) hmix hnum hp (.none _) hB hr rfl
  ·cases h
end
noncomputable abbrev treePr (a b : List UInt8) (g : Nat → Nat) (L : Int) : Option (List Lf) :=
 brK (decide (0 ≤ L ∧ L = L ∧ L < 2147483648)) (brK (propB ((0 : Int) = 0 ∧ L.toNat = a.length + b.length ∧ L.toNat = a.length + b.length ∧ ((fun _ => 0 : Nat → Int) = fun _ => 0) ∧ a.all isDg = true ∧ b.all isDg = true ∧ a.length < 2 ^ 29 ∧ b.length < 2 ^ 29))
  (brK (decide (0 ≤ ((a.length + b.length : Nat) : Int) ∧ ((a.length + b.length : Nat) : Int) = ((a.length + b.length : Nat) : Int) ∧ ((a.length + b.length : Nat) : Int) < 2147483648))
   (brK (propB (a.length + b.length = a.length + b.length ∧ ((a.length + b.length : Nat) : Int).toNat = a.length + b.length ∧ (0 : Int) = 0 ∧ W (((a.length + b.length : Nat) : Int) - 1) = ((a.length + b.length : Nat) : Int) - 1 ∧ ((a.length + b.length : Nat) : Int).toNat = a.length + b.length ∧ castF (colG a b a.length) = castF g ∧ ((fun _ => 0 : Nat → Int) = fun _ => 0) ∧ a.length + b.length < 2147483648 ∧ ∀ x, g x ≤ 2 ^ 40))
    (brK (decide (0 ≤ 0) && decide (0 + (a.length + b.length) ≤ a.length + b.length)) (some [.s (bareS (txtF (a.length + b.length) (outF (a.length + b.length) (hW g (a.length + b.length)) (a.length + b.length))))]) none) none) none) none) none
theorem run123 (a b : List UInt8) (g : Nat → Nat) : (runK prog (pR7b g) 60).call 123 (spSS.rho [.s a, .s b]) (spSS.heap [.s a, .s b]) (finP spS1 8 []) = treePr a b g (W ((a.length : Int) + (b.length : Int))) := by kernel_rfl
theorem treePr_eq {a b : List UInt8} (ha : a.all isDg = true) (hb : b.all isDg = true) (hn : a ≠ []) (la : a.length < 2 ^ 29) (lb : b.length < 2 ^ 29) :
  treePr a b (colG a b a.length) (W ((a.length : Int) + (b.length : Int))) = some [.s (itoa (digW 0 a * digW 0 b : Nat))] := by
 have e1 : W ((a.length : Int) + (b.length : Int)) = ((a.length + b.length : Nat) : Int) := by rw [W_id (by omega) (by omega)]; omega
 have hg : ∀ x, colG a b a.length x ≤ 2 ^ 40 := fun x => by
  have := col_le ha hb a.length x
  omega
 have hpos : 0 < a.length := by cases a with | nil => exact (hn rfl).elim | cons => simp
 have hlt : digW 0 a * digW 0 b < 10 ^ (a.length + b.length) := by
  rw [Nat.pow_add]
  exact Nat.mul_lt_mul'' (digW_lt a ha) (digW_lt b hb)
 have hbare : bareS (pad (a.length + b.length) (digW 0 a * digW 0 b)) = itoa (digW 0 a * digW 0 b : Nat) := by
  rw [bareS_itoa (by intro e; have := pad_length (a.length + b.length) (digW 0 a * digW 0 b); rw [e] at this; simp at this; omega) (pad_all _ _), digV_W, digW_pad, Nat.mod_eq_of_lt hlt]
 unfold treePr
 rw [e1, Int.toNat_natCast, col_prod]
 generalize hL : a.length + b.length = L at *
 have ht : txtF L (outF L (digW 0 a * digW 0 b) L) = pad L (digW 0 a * digW 0 b) := by
  rw [← outF_text]
  unfold txtF
  simp only [Nat.zero_add]
 rw [ht, hbare, decide_eq_true (show 0 ≤ (L : Int) ∧ (L : Int) = (L : Int) ∧ (L : Int) < 2147483648 by omega), propB_true (show (0 : Int) = 0 ∧ L = L ∧ L = L ∧ ((fun _ => 0 : Nat → Int) = fun _ => 0) ∧ a.all isDg = true ∧ b.all isDg = true ∧ a.length < 2 ^ 29 ∧ b.length < 2 ^ 29 from ⟨rfl, rfl, rfl, rfl, ha, hb, la, lb⟩),
  propB_true (show L = L ∧ L = L ∧ (0 : Int) = 0 ∧ W ((L : Int) - 1) = (L : Int) - 1 ∧ L = L ∧ castF (colG a b a.length) = castF (colG a b a.length) ∧ ((fun _ => 0 : Nat → Int) = fun _ => 0) ∧ L < 2147483648 ∧ ∀ x, colG a b a.length x ≤ 2 ^ 40 from ⟨rfl, rfl, rfl, by rw [W_id (by omega) (by omega)], rfl, rfl, rfl, by omega, hg⟩),
  decide_eq_true (show 0 + L ≤ L by omega)]
 rfl
noncomputable def T123 : List Lf → Tr (SP × List Lf)
 | [.s a, .s b] => .br (propB (a.all isDg = true ∧ b.all isDg = true ∧ a ≠ [] ∧ a.length < 2 ^ 29 ∧ b.length < 2 ^ 29)) (.leaf (spS1, [.s (itoa (digW 0 a * digW 0 b : Nat))])) .fail
 | _ => .fail
noncomputable def pR7 : Prims := pR6.addh 123 (liftG 8 (funP spSS 8 [] T123))
theorem pR7_ok {A : Amb} (hT : Tab A) (hG : prog.globals.size ≤ A.G) : PrimOK prog A pR7 := by
 refine (pR6_ok hT hG).addl gsz func123 (by kernel_rfl) (funP_ok hmix hnum rfl fun ls sq l h => ?_)
 unfold T123 at h
 split at h
 ·rename_i a b
  obtain ⟨hc, hv⟩ := Tr.br1 h
  cases hv
  obtain ⟨ha, hb, hn, la, lb⟩ := propB_eq hc
  exact ⟨⟨.inr rfl, .inr rfl, .inr rfl, .inr rfl, .inr rfl, .inr rfl, .inr rfl, .inr rfl, trivial⟩, rfl, rfl, pR7b (colG a b a.length), 60, pR7b_ok hT hG _, (run123 a b _).trans (treePr_eq ha hb hn la lb)⟩
 ·cases h
end Go.Proofs.Tryz
namespace Go.Proofs.Tryz
open Go.Ad
open Go.Lib (decDigits itoa nDigits decFrom digitVal)
theorem run142 (a b : List UInt8) : (runK prog lib2 60).call 142 [.sstr a, .sstr b] (Bg 8) finV =
  brK (decide ((a.length : Int) < (b.length : Int))) (some (.bool true)) (brK ((a.length : Int) == (b.length : Int)) (some (.sbool (Op.bytesLess a b))) (some (.bool false))) := by kernel_rfl
noncomputable def T142 : List Lf → Tr AV
 | [.s a, .s b] => .br (propB (a = itoa (digW 0 a : Nat) ∧ b = itoa (digW 0 b : Nat))) (.leaf (.sbool (decide (digW 0 a < digW 0 b)))) .fail
 | _ => .fail
noncomputable def pR8 : Prims := pR7.addt 142 (gP [.str, .str] T142)
theorem pR8_ok {A : Amb} (hT : Tab A) (hG : prog.globals.size ≤ A.G) : PrimOK prog A pR8 := by
 refine PrimOK.addP hmix hnum (lib2_ok hT) (pR7_ok hT hG) hG func142 (by kernel_rfl) fun ls v h => ?_
 unfold T142 at h
 split at h
 ·rename_i a b
  obtain ⟨hc, hv⟩ := Tr.br1 h
  cases hv
  obtain ⟨ha, hb⟩ := propB_eq hc
  have hl := less_dec (digW 0 a) (digW 0 b)
  rw [← itoaN, ← itoaN, ← ha, ← hb] at hl
  have hk := run142 a b
  have fin : ∀ v', (runK prog lib2 60).call 142 [.sstr a, .sstr b] (Bg 8) finV = some v' → below 0 v' = true → (∀ ι x, VR ι v' x → VR ι (.sbool (decide (digW 0 a < digW 0 b))) x) →
    belowL 0 (mkT [.str, .str] [.s a, .s b]).1 = true ∧ ∃ n v', (runK prog lib2 n).call 142 (mkT [.str, .str] [.s a, .s b]).1 (Bg prog.globals.size) finV = some v' ∧ below 0 v' = true ∧ ∀ ι x, VR ι v' x → VR ι (.sbool (decide (digW 0 a < digW 0 b))) x := fun v' h1 h2 h3 =>
   ⟨rfl, 60, v', by rw [gsz]; exact h1, h2, h3⟩
  by_cases h1 : a.length < b.length
  ·rw [decide_eq_true (show (a.length : Int) < (b.length : Int) by omega)] at hk
   rw [decide_eq_true h1] at hl
   exact fin _ hk rfl fun ι x => vr_bool (by rw [← hl]; rfl) x
  ·rw [decide_eq_false (show ¬ (a.length : Int) < (b.length : Int) by omega)] at hk
   rw [decide_eq_false h1] at hl
   by_cases h2 : a.length = b.length
   ·rw [show ((a.length : Int) == (b.length : Int)) = true by rw [beq_iff_eq]; omega] at hk
    rw [decide_eq_true h2] at hl
    exact fin _ hk rfl fun ι x => vr_sbool (by rw [← hl]; rfl) x
   ·rw [show ((a.length : Int) == (b.length : Int)) = false by rw [beq_eq_false_iff_ne]; omega] at hk
    rw [decide_eq_false h2] at hl
    exact fin _ hk rfl fun ι x => vr_bool (by rw [← hl]; rfl) x
 ·cases h
noncomputable def code118 : Code := f118.body.getD .skip
noncomputable def bodyDi : Code := unLoop (findB 2 code118)
noncomputable def bodyDo : Code := unLoop (findB 0 code118)
def spDi : SP := ⟨[.str, .str] ++ dr 4 ++ [.str, .str, .int .i64, .int .u8] ++ dr 31, dd8⟩
def spDo : SP := ⟨[.str, .str] ++ dr 4 ++ [.str, .str, .int .i64] ++ dr 32, dd8⟩
def lfDi (a b q r : List UInt8) (i d : Int) : List Lf := [.s a, .s b, .s q, .s r, .i i, .i d]
def lfDo (a b q r : List UInt8) (i : Int) : List Lf := [.s a, .s b, .s q, .s r, .i i]
theorem roundDi (a b q r : List UInt8) (i d : Int) : execK prog (runK prog pR8 60) noBps bodyDi (spDi.rho (lfDi a b q r i d)) (spDi.heap (lfDi a b q r i d)) (nrmP (fun _ => spDi) 8 []) =
  brK (propB (r = itoa (digW 0 r : Nat) ∧ b = itoa (digW 0 b : Nat))) (brK (!(decide (digW 0 r < digW 0 b))) (brK (propB (r.all isDg = true ∧ b.all isDg = true ∧ r.length < 2 ^ 30 ∧ b.length < 2 ^ 30 ∧ (false = false → digW 0 b ≤ digW 0 r)))
   (some (.normal, lfDi a b q (itoa (sumN false (digW 0 r) (digW 0 b) : Nat)) i (IntKind.u8.wrap (d + 1)))) none) (some (.exit 2, lfDi a b q r i d))) none := by kernel_rfl
theorem stepDi {a q : List UInt8} {i : Int} {B R d : Nat} (hB : (itoa (B : Int)).length < 2 ^ 28) (hR : (itoa (R : Int)).length < 2 ^ 29) (hd : d < 100) :
  execK prog (runK prog pR8 60) noBps bodyDi (spDi.rho (lfDi a (itoa (B : Nat)) q (itoa (R : Nat)) i (48 + d : Nat))) (spDi.heap (lfDi a (itoa (B : Nat)) q (itoa (R : Nat)) i (48 + d : Nat))) (nrmP (fun _ => spDi) 8 []) =
  if R < B then some (.exit 2, lfDi a (itoa (B : Nat)) q (itoa (R : Nat)) i (48 + d : Nat)) else some (.normal, lfDi a (itoa (B : Nat)) q (itoa (R - B : Nat)) i (48 + (d + 1) : Nat)) := by
 rw [roundDi, digW_itoa, digW_itoa, propB_true ⟨rfl, rfl⟩, brK_t]
 by_cases h : R < B
 ·rw [if_pos h, decide_eq_true h]; rfl
 ·have e : ((48 + d : Nat) : Int) + 1 = ((48 + (d + 1) : Nat) : Int) := by omega
  rw [if_neg h, decide_eq_false h, propB_true ⟨itoaN_all R, itoaN_all B, by omega, by omega, fun _ => by omega⟩, e, wrap8_nat (by omega)]; rfl
noncomputable def hookDi : Blk := hookP spDi 8 [] fun
 | [.s a, .s b, .s q, .s r, .i i, .i d] => .br (propB (d = 48 ∧ b = itoa (digW 0 b : Nat) ∧ r = itoa (digW 0 r : Nat) ∧ 0 < digW 0 b ∧ digW 0 r / digW 0 b < 10 ∧ b.length < 2 ^ 28 ∧ r.length < 2 ^ 29))
  (.leaf (.normal, spDi, lfDi a b q (itoa (digW 0 r % digW 0 b : Nat)) i (48 + digW 0 r / digW 0 b : Nat))) .fail
 | _ => .fail
theorem len_mono {V U : Nat} (h : V ≤ U) : (itoa (V : Int)).length ≤ (itoa (U : Int)).length := by
 rw [itoaN, itoaN]; exact dec_len_mono h
theorem hookDi_ok {A : Amb} (hT : Tab A) (hG : prog.globals.size ≤ A.G) : ∀ ρ B e' ρ' B' D, (hookDi ρ B).get = some (e', ρ', B', D) → AFr B B' D ∧ SEB prog A B (.block 2 (.loop bodyDi)) ⟨ρ, B, []⟩ e' ⟨ρ', B', D⟩ := by
 have hp := pR8_ok hT hG
 refine hookP_ok rfl fun ls e sq l h => ?_
 split at h
 ·rename_i a b q r i d
  obtain ⟨hc, hv⟩ := Tr.br1 h
  cases hv
  obtain ⟨rfl, hb, hr, hB, hq, lb, lr⟩ := propB_eq hc
  generalize digW 0 b = B at *
  generalize digW 0 r = R at *
  subst hb hr
  refine ⟨⟨.inr rfl, .inr rfl, .inr rfl, .inr rfl, .inr rfl, .inr rfl, .inr rfl, .inr rfl, trivial⟩, fun Bb hBb => SEB.block_exit (id := 2) ?_⟩
  refine SEB.while (fun s : Nat × Nat => s.1 ≤ R ∧ s.2 + s.1 / B = R / B ∧ s.1 % B = R % B) (fun s => s.1) (fun s => ⟨spDi.rho (lfDi a (itoa (B : Nat)) q (itoa (s.1 : Nat)) i (48 + s.2 : Nat)), spDi.heap (lfDi a (itoa (B : Nat)) q (itoa (s.1 : Nat)) i (48 + s.2 : Nat)), []⟩)
   (fun _ => (.exit 2, ⟨spDi.rho (lfDi a (itoa (B : Nat)) q (itoa (R % B : Nat)) i (48 + R / B : Nat)), spDi.heap (lfDi a (itoa (B : Nat)) q (itoa (R % B : Nat)) i (48 + R / B : Nat)), []⟩)) (fun s hs => ?_) (R, 0) ⟨Nat.le_refl _, Nat.zero_add _, rfl⟩
  obtain ⟨S, d⟩ := s
  obtain ⟨h1, h2, h3⟩ := hs
  simp only at h1 h2 h3
  have hdle : d ≤ R / B := by rw [← h2]; exact Nat.le_add_right _ _
  have hk := stepDi (a := a) (q := q) (i := i) (B := B) (R := S) (d := d) lb (Nat.lt_of_le_of_lt (len_mono h1) lr) (by omega)
  by_cases hlt : S < B
  ·rw [if_pos hlt] at hk
   rw [Nat.div_eq_of_lt hlt, Nat.add_zero] at h2
   rw [Nat.mod_eq_of_lt hlt] at h3
   right
   refine ⟨by simp, ?_⟩
   rw [← h2, ← h3]
   exact SEB.of_KP (A := A) (B0 := Bb) (e := .exit 2) hmix hnum hp (.none _) hBb hk rfl
  ·rw [if_neg hlt] at hk
   left
   refine ⟨(S - B, d + 1), ⟨by simp only; omega, ?_, ?_⟩, by simp only; omega, rfl, SEB.of_KP (A := A) (B0 := Bb) (e := .normal) hmix hnum hp (.none _) hBb hk rfl⟩
   ·simp only
    have := Nat.div_eq_sub_div hB (show B ≤ S by omega)
    omega
   ·simp only
    rw [← h3, Nat.mod_eq_sub_mod (show B ≤ S by omega)]
 ·cases h
theorem roundDo (a b q r : List UInt8) (i : Int) : execK prog (runK prog pR8 60) (oneB 2 hookDi) bodyDo (spDo.rho (lfDo a b q r i)) (spDo.heap (lfDo a b q r i)) (nrmP (fun _ => spDo) 8 []) =
  brK (decide (i < (a.length : Int))) (brK (decide (0 ≤ W (i + 1) ∧ W (i + 1) ≤ (a.length : Int)) && decide (0 ≤ i ∧ i ≤ ((W (i + 1)).toNat : Int))) (brK (decide (r.length + ((a.take (W (i + 1)).toNat).drop i.toNat).length < 4611686018427387904))
   ((fun r' : List UInt8 => brK (propB ((48 : Int) = 48 ∧ b = itoa (digW 0 b : Nat) ∧ r' = itoa (digW 0 r' : Nat) ∧ 0 < digW 0 b ∧ digW 0 r' / digW 0 b < 10 ∧ b.length < 2 ^ 28 ∧ r'.length < 2 ^ 29)) (brK (decide (q.length + 1 < 4611686018427387904))
    (some (.normal, lfDo a b (q ++ [UInt8.ofNat ((48 + digW 0 r' / digW 0 b : Nat) : Int).toNat]) (itoa (digW 0 r' % digW 0 b : Nat)) (W (i + 1)))) none) none) (bareS (r ++ (a.take (W (i + 1)).toNat).drop i.toNat))) none) none)
   (some (.exit 0, lfDo a b q r i)) := by kernel_rfl
def lfDj (a : List UInt8) (B i : Nat) : List Lf := lfDo a (itoa (B : Nat)) (pad i (digW 0 (a.take i) / B)) (itoa (digW 0 (a.take i) % B : Nat)) i
theorem stepDo {a : List UInt8} {B i : Nat} (ha : a.all isDg = true) (hB : 0 < B) (lB : (itoa (B : Int)).length < 2 ^ 28) (la : a.length < 2 ^ 28) (hi : i < a.length) :
  execK prog (runK prog pR8 60) (oneB 2 hookDi) bodyDo (spDo.rho (lfDj a B i)) (spDo.heap (lfDj a B i)) (nrmP (fun _ => spDo) 8 []) = some (.normal, lfDj a B (i + 1)) := by
 unfold lfDj
 have e1 : W ((i : Int) + 1) = ((i + 1 : Nat) : Int) := by rw [W_id (by omega) (by omega)]; omega
 have hd := dg_le ha i
 have hmod := Nat.mod_lt (digW 0 (a.take i)) hB
 have hsl : (a.take (i + 1)).drop i = [a.getD i 0] := by
  rw [List.take_add_one, List.getElem?_eq_getElem hi, List.drop_append, List.drop_eq_nil_of_le (by simp; omega), List.length_take, Nat.min_eq_left (by omega), Nat.sub_self, List.getD_eq_getElem?_getD, List.getElem?_eq_getElem hi]
  rfl
 have hdg : isDg (a.getD i 0) = true := by
  rw [List.getD_eq_getElem?_getD, List.getElem?_eq_getElem hi]
  exact List.all_eq_true.1 ha _ (List.getElem_mem hi)
 obtain ⟨d1, d2, d3⟩ := div_digit (A := digW 0 (a.take i)) hB (show dg a i < 10 by omega)
 rw [roundDo, e1, Int.toNat_natCast, Int.toNat_natCast, hsl, take_step hi]
 generalize hA : digW 0 (a.take i) = X at *
 have hr : bareS (itoa (X % B : Nat) ++ [a.getD i 0]) = itoa (X % B * 10 + dg a i : Nat) := by
  rw [bareS_itoa (by simp) (by rw [List.all_append, itoaN_all]; simp only [List.all_cons, List.all_nil, hdg, Bool.and_self]), digV_W, digW_append, digW_itoa]
  rfl
 have hlt : X % B * 10 + dg a i < 10 ^ ((itoa (B : Int)).length + 1) := by
  have := itoaN_lt B
  rw [Nat.pow_succ]
  omega
 have hlen := itoaN_len hlt (by omega)
 have hlr : (itoa ((X % B : Nat) : Int)).length ≤ (itoa (B : Int)).length := len_mono (by omega)
 have e2 : ((48 + (X % B * 10 + dg a i) / B : Nat) : Int).toNat = 48 + (X % B * 10 + dg a i) / B := Int.toNat_natCast _
 rw [hr]
 dsimp only
 rw [digW_itoa, digW_itoa, e2, pad_snoc d3, ← d1, ← d2, pad_length, decide_eq_true (show (i : Int) < (a.length : Int) by omega), decide_eq_true (show 0 ≤ ((i + 1 : Nat) : Int) ∧ ((i + 1 : Nat) : Int) ≤ (a.length : Int) by omega), decide_eq_true (show 0 ≤ (i : Int) ∧ (i : Int) ≤ ((i + 1 : Nat) : Int) by omega),
  decide_eq_true (show (itoa ((X % B : Nat) : Int)).length + [a.getD i 0].length < 4611686018427387904 by rw [List.length_singleton]; omega)]
 simp only [Bool.and_self, brK_t]
 rw [propB_true ⟨trivial, trivial, trivial, hB, d3, lB, by omega⟩, decide_eq_true (show i + 1 < 4611686018427387904 by omega)]
 rfl
noncomputable def hookDo : Blk := hookP spDo 8 [] fun
 | [.s a, .s b, .s q, .s r, .i i] => .br (propB (i = 0 ∧ q = [] ∧ r = [48] ∧ a.all isDg = true ∧ b = itoa (digW 0 b : Nat) ∧ 0 < digW 0 b ∧ a.length < 2 ^ 28 ∧ b.length < 2 ^ 28)) (.leaf (.normal, spDo, lfDj a (digW 0 b) a.length)) .fail
 | _ => .fail
noncomputable def pR9b : Prims := pR8.addb 118 0 hookDo
theorem pR9b_ok {A : Amb} (hT : Tab A) (hG : prog.globals.size ≤ A.G) : PrimOK prog A pR9b := by
 have hp := pR8_ok hT hG
 have hblk : BlkOK prog A (oneB 2 hookDi) bodyDo := BlkOK.one (body := .loop bodyDi) (by kernel_rfl) fun ρ B e ρ' B' D hq => (hookDi_ok hT hG ρ B e ρ' B' D hq).2
 refine PrimOK.addbP hp func118 (show f118.body = some code118 by kernel_rfl) (body := .loop bodyDo) (by kernel_rfl) (by kernel_rfl) fun ls e sq l h => ?_
 split at h
 ·rename_i a b q r i
  obtain ⟨hc, hv⟩ := Tr.br1 h
  cases hv
  obtain ⟨rfl, rfl, rfl, ha, hb, hB, la, lb⟩ := propB_eq hc
  generalize digW 0 b = B at *
  subst hb
  refine ⟨⟨.inr rfl, .inr rfl, .inr rfl, .inr rfl, .inr rfl, .inr rfl, .inr rfl, .inr rfl, trivial⟩, fun Bb hBb => SEB.block_exit (id := 0) ?_⟩
  have e0 : ([.s a, .s (itoa (B : Nat)), .s [], .s [48], .i 0] : List Lf) = lfDj a B 0 := by
   unfold lfDj lfDo
   rw [show digW 0 (a.take 0) = 0 from rfl, Nat.zero_mod, show ((0 : Nat) : Int) = 0 from rfl, itoa0]; rfl
  rw [e0]
  refine SEB.loop_nat (A := A) (B0 := Bb) (c := bodyDo) (I := fun j => ⟨spDo.rho (lfDj a B j), spDo.heap (lfDj a B j), []⟩) (N := a.length) (fun j hj => SEB.of_KP (A := A) (B0 := Bb) (e := .normal) hmix hnum hp hblk hBb (stepDo ha hB lb la hj) rfl) ?_ (by simp) (i := 0) (Nat.zero_le _)
  have hr : execK prog (runK prog pR8 60) (oneB 2 hookDi) bodyDo (spDo.rho (lfDj a B a.length)) (spDo.heap (lfDj a B a.length)) (nrmP (fun _ => spDo) 8 []) = some (.exit 0, lfDj a B a.length) := by
   unfold lfDj
   rw [roundDo, decide_eq_false (show ¬ (a.length : Int) < (a.length : Int) by omega)]
   rfl
  exact SEB.of_KP (A := A) (B0 := Bb) (e := .exit 0) hmix hnum hp hblk hBb hr rfl
 ·cases h
theorem run118 (a b : List UInt8) : (runK prog pR9b 60).call 118 (spSS.rho [.s a, .s b]) (spSS.heap [.s a, .s b]) (finQ spSS 8 []) =
  brK (propB ((0 : Int) = 0 ∧ ([] : List UInt8) = [] ∧ ([48] : List UInt8) = [48] ∧ a.all isDg = true ∧ b = itoa (digW 0 b : Nat) ∧ 0 < digW 0 b ∧ a.length < 2 ^ 28 ∧ b.length < 2 ^ 28))
   (some [.s (bareS (pad a.length (digW 0 (a.take a.length) / digW 0 b))), .s (itoa (digW 0 (a.take a.length) % digW 0 b : Nat))]) none := by kernel_rfl
noncomputable def T118 : List Lf → Tr (SP × List Lf)
 | [.s a, .s b] => .br (propB (a.all isDg = true ∧ a ≠ [] ∧ b = itoa (digW 0 b : Nat) ∧ 0 < digW 0 b ∧ a.length < 2 ^ 28 ∧ b.length < 2 ^ 28)) (.leaf (spSS, [.s (itoa (digW 0 a / digW 0 b : Nat)), .s (itoa (digW 0 a % digW 0 b : Nat))])) .fail
 | _ => .fail
noncomputable def pR9 : Prims := pR8.addh 118 (liftG 8 (funQ spSS 8 [] T118))
theorem pR9_ok {A : Amb} (hT : Tab A) (hG : prog.globals.size ≤ A.G) : PrimOK prog A pR9 := by
 refine (pR8_ok hT hG).addl gsz func118 (by kernel_rfl) (funQ_ok hmix hnum rfl fun ls sq l h => ?_)
 unfold T118 at h
 split at h
 ·rename_i a b
  obtain ⟨hc, hv⟩ := Tr.br1 h
  cases hv
  obtain ⟨ha, hn, hb, hB, la, lb⟩ := propB_eq hc
  refine ⟨⟨.inr rfl, .inr rfl, .inr rfl, .inr rfl, .inr rfl, .inr rfl, .inr rfl, .inr rfl, trivial⟩, rfl, pR9b, 60, _, pR9b_ok hT hG, (run118 a b).trans ?_, fun _ _ => .refl⟩
  have hpos : 0 < a.length := by cases a with | nil => exact (hn rfl).elim | cons => simp
  rw [propB_true ⟨rfl, rfl, rfl, ha, hb, hB, la, lb⟩, brK_t, List.take_length, bareS_itoa (by intro e; have := pad_length a.length (digW 0 a / digW 0 b); rw [e] at this; simp at this; omega) (pad_all _ _), digV_W, digW_pad,
   Nat.mod_eq_of_lt (Nat.lt_of_le_of_lt (Nat.div_le_self _ _) (digW_lt a ha))]
 ·cases h
end Go.Proofs.Tryz
