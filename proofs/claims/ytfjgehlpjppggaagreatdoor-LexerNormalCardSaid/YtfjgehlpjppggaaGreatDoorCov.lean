/- The tokens of a text stand in the text at their places, in order, with blanks between them. -/
import Derived.Test.YtfjgehlpjppggaaGreatDoorScanT
import Derived.Test.YtfjgehlpjppggaaGreatDoorLib
import Derived.Test.YtfjgehlpjppggaaGreatDoorOpen

namespace Go.Proofs.Tryz
open Go.Ad

/-- From place `a` on the text is these tokens, with blanks between and behind them. -/
def Cov (s : List UInt8) : Nat → List Tok → Prop
  | a, [] => a ≤ s.length ∧ ∀ j, a ≤ j → j < s.length → s.getD j 0 = 32
  | a, t :: r => ∃ q : Nat, t.2.2 = (q : Int) ∧ a ≤ q ∧ q + t.2.1.length ≤ s.length ∧ (∀ j, a ≤ j → j < q → s.getD j 0 = 32) ∧ (s.drop q).take t.2.1.length = t.2.1 ∧ t.2.1 ≠ [] ∧ (t.1 = 0 ∨ t.1 = 1 ∨ t.1 = 2) ∧ Cov s (q + t.2.1.length) r

theorem Cov.blank {s : List UInt8} {a : Nat} (hb : s.getD a 0 = 32) : ∀ {M : List Tok}, Cov s (a + 1) M → Cov s a M
  | [], h => ⟨by have := h.1; omega, fun j h1 h2 => by
      by_cases e : j = a
      · rw [e, hb]
      · exact h.2 j (by omega) h2⟩
  | t :: r, ⟨q, h1, h2, h3, h4, h5⟩ => ⟨q, h1, by omega, h3, fun j k1 k2 => by
      by_cases e : j = a
      · rw [e, hb]
      · exact h4 j (by omega) k2, h5⟩

theorem tokK_kind (s : List UInt8) : (tokK s).1 = 0 ∨ (tokK s).1 = 1 ∨ (tokK s).1 = 2 := by
  unfold tokK
  cases letB (bAt s 0) <;> cases digB (bAt s 0) <;> cases markB (bAt s 0) <;> simp

theorem cov_scan (s : List UInt8) : ∀ (k a : Nat) (L L' : List Tok), a ≤ s.length → s.length - a ≤ k → scanS s k a L = .inr L' → ∃ M, L' = L ++ M ∧ Cov s a M
  | 0, a, L, L', ha, hk, h => by
    cases h
    exact ⟨[], by simp, ha, fun j h1 h2 => by omega⟩
  | k + 1, a, L, L', ha, hk, h => by
    simp only [scanS] at h
    by_cases hlt : a < s.length
    · rw [decide_eq_true hlt, cond_true] at h
      cases hb : bAt s a == 32 with
      | true =>
        rw [hb, cond_true] at h
        obtain ⟨M, h1, h2⟩ := cov_scan s k (a + 1) L L' (by omega) (by omega) h
        refine ⟨M, h1, h2.blank ?_⟩
        have : bAt s a = 32 := by simpa using hb
        unfold bAt at this
        exact UInt8.toNat_inj.1 (by simpa using (by omega : (s.getD a 0).toNat = 32))
      | false =>
        rw [hb, cond_false] at h
        cases he : (tokK (s.drop a)).2.2 != 0 with
        | true => rw [he, cond_true] at h; cases h
        | false =>
          rw [he, cond_false] at h
          have h0 : (tokK (s.drop a)).2.2 = 0 := by simpa using he
          obtain ⟨q1, q2⟩ := tokK_le (s.drop a) (drop_ne hlt)
          have q2 := q2 h0
          have hkd := tokK_kind (s.drop a)
          have q1' := q1
          rw [List.length_drop] at q1
          obtain ⟨M, h1, h2⟩ := cov_scan s k _ _ L' (by omega) (by omega) h
          have hlen : ((s.drop a).take (tokK (s.drop a)).2.1).length = (tokK (s.drop a)).2.1 := by rw [List.length_take]; omega
          refine ⟨((tokK (s.drop a)).1, (s.drop a).take (tokK (s.drop a)).2.1, (a : Int)) :: M, by rw [h1, List.append_assoc]; rfl, a, rfl, Nat.le_refl _, by simp only [hlen]; omega, fun j h1 h2 => by omega, by simp only [hlen], fun e => ?_, hkd, by simp only [hlen]; exact h2⟩
          simp only at e; rw [e] at hlen; simp at hlen; omega
    · rw [decide_eq_false hlt, cond_false] at h
      cases h
      exact ⟨[], by simp, ha, fun j h1 h2 => by omega⟩

theorem cov_scL (s : List UInt8) (h : scB s = false) : Cov s 0 (scL s) := by
  unfold scB at h
  unfold scL
  cases hs : scanS s s.length 0 [] with
  | inl x => rw [hs] at h; cases h
  | inr L =>
    obtain ⟨M, h1, h2⟩ := cov_scan s s.length 0 [] L (Nat.zero_le _) (by omega) hs
    simp only [List.nil_append] at h1
    subst h1
    exact h2

theorem scE_ne (s : List UInt8) (h : scB s = true) : scE s ≠ 0 := by
  have key : ∀ (k a : Nat) (L : List Tok) (x : Nat × Int), scanS s k a L = .inl x → x.2 ≠ 0 := by
    intro k
    induction k with
    | zero => intro a L x h; cases h
    | succ k ih =>
      intro a L x h
      simp only [scanS] at h
      cases h1 : decide (a < s.length) with
      | false => rw [h1, cond_false] at h; cases h
      | true =>
        rw [h1, cond_true] at h
        cases h2 : bAt s a == 32 with
        | true => rw [h2, cond_true] at h; exact ih _ _ _ h
        | false =>
          rw [h2, cond_false] at h
          cases h3 : (tokK (s.drop a)).2.2 != 0 with
          | true => rw [h3, cond_true] at h; cases h; simpa using h3
          | false => rw [h3, cond_false] at h; exact ih _ _ _ h
  unfold scB at h
  unfold scE
  cases hs : scanS s s.length 0 [] with
  | inl x => exact key _ _ _ x hs
  | inr L => rw [hs] at h; cases h

theorem trim_blank {l : List UInt8} (h : ∀ b, b ∈ l → b = 32) : Lib.trimS l [32] = [] := by
  have e : Lib.trimRightS l [32] = [] := by
    rw [Lib.trimRightS_take l [32] 0 (Nat.zero_le _) (fun j b _ hb => by rw [h b (List.mem_of_getElem? hb)]; rfl) (fun b h => by omega)]
    rfl
  unfold Lib.trimS
  rw [e]
  rfl

/-! The law's loop. -/
noncomputable def pC : Prims := withAwake (pS.addt 31 gTrim)
def spC : SP := ⟨[.str, .drop, .drop, .list 8, .drop, .drop, .int .i64] ++ dr 15 ++ [.list 8, .int .i64, .int .i64] ++ dr 73, dd8 ++ [.vec 3 52]⟩
def spCr : SP := ⟨[.drop, .drop, .bool] ++ dr 95, dd8 ++ [.vec 3 52]⟩
def spCx : AEx → SP
  | .ret => spCr
  | _ => spC
def lfC (s : List UInt8) (n : Nat) (a i : Int) (r : Nat → List AV) : List Lf := [.s s, .n n, .i a, .n n, .i n, .i i, .n n, .r r]
noncomputable def code7 : Code := f7.body.getD .skip
noncomputable def body7 : Code := unLoop (findB 0 code7)

def treeC (s : List UInt8) (n : Nat) (a i : Int) (t : Tok) (r : Nat → List AV) : Option (AEx × List Lf) :=
  brK (decide (i < (n : Int))) (brK (decide (0 ≤ i ∧ i < (n : Int))) (brK (decide (0 + i.toNat < n)) (brK (decide (t.2.2 < a)) (some (.ret, [.b false, .n n, .r r]))
    (brK (decide (t.2.2 > (s.length : Int))) (some (.ret, [.b false, .n n, .r r]))
    (brK (decide (0 ≤ t.2.2 ∧ t.2.2 ≤ (s.length : Int)) && decide (0 ≤ a ∧ a ≤ (t.2.2.toNat : Int))) (brK (decide ((List.drop a.toNat (List.take t.2.2.toNat s)).length ≤ 9223372036854775807))
      (brK (!Lib.trimS (List.drop a.toNat (List.take t.2.2.toNat s)) [32] == []) (some (.ret, [.b false, .n n, .r r]))
      (brK (true && decide (0 ≤ t.2.2 ∧ t.2.2 ≤ (s.length : Int))) (brK (decide (((List.drop t.2.2.toNat (List.take s.length s)).length : Int) ≥ (t.2.1.length : Int)))
        (brK (decide (0 ≤ (t.2.1.length : Int) ∧ (t.2.1.length : Int) ≤ ((List.drop t.2.2.toNat (List.take s.length s)).length : Int)) && true)
          (brK (!List.drop 0 (List.take t.2.1.length (List.drop t.2.2.toNat (List.take s.length s))) == t.2.1) (some (.ret, [.b false, .n n, .r r]))
          (brK (!(t.2.1 == []) == (i == W ((n : Int) - 1))) (some (.ret, [.b false, .n n, .r r]))
          (brK (!(t.1 == 3) == (i == W ((n : Int) - 1))) (some (.ret, [.b false, .n n, .r r]))
          (some (.normal, lfC s n (W (t.2.2 + (t.2.1.length : Int))) (W (i + 1)) r)))))
          none) (some (.ret, [.b false, .n n, .r r]))) none)) none) none))) none) none)
    (some (.exit 0, lfC s n a i r))

theorem round7 (s : List UInt8) (n : Nat) (a i : Int) (r : Nat → Tok) : execK prog (runK prog pC 60) noBps body7 (spC.rho (lfC s n a i (fun i => rowT (r i)))) (spC.heap (lfC s n a i (fun i => rowT (r i)))) (nrmP spCx 9 []) =
    treeC s n a i (r (0 + i.toNat)) (fun i => rowT (r i)) := by kernel_rfl

theorem treeC_end {s : List UInt8} {n : Nat} {a : Int} {t : Tok} {r : Nat → List AV} : treeC s n a n t r = some (.exit 0, lfC s n a n r) := by
  unfold treeC; rw [decide_eq_false (show ¬ (n : Int) < n by omega)]; rfl

theorem treeC_next {s : List UInt8} {n i a q : Nat} {t : Tok} {r : Nat → List AV} (hs : s.length < 2 ^ 62) (hi : i < n) (hn : n < 2 ^ 62) (h1 : t.2.2 = (q : Int)) (h2 : a ≤ q) (h3 : q + t.2.1.length ≤ s.length)
    (h4 : ∀ j, a ≤ j → j < q → s.getD j 0 = 32) (h5 : (s.drop q).take t.2.1.length = t.2.1) (h6 : (t.2.1 == []) = decide (i = n - 1)) (h7 : (t.1 == 3) = decide (i = n - 1)) :
    treeC s n a i t r = some (.normal, lfC s n ((q + t.2.1.length : Nat) : Int) ((i + 1 : Nat) : Int) r) := by
  unfold treeC
  have e1 : W ((n : Int) - 1) = ((n - 1 : Nat) : Int) := by rw [W, wrap64 (by omega) (by omega)]; omega
  have e2 : W ((i : Int) + 1) = ((i + 1 : Nat) : Int) := by rw [W, wrap64 (by omega) (by omega)]; omega
  have e3 : W ((q : Int) + (t.2.1.length : Int)) = ((q + t.2.1.length : Nat) : Int) := by rw [W, wrap64 (by omega) (by omega)]; omega
  have e4 : ((i : Int) == ((n - 1 : Nat) : Int)) = decide (i = n - 1) := by
    by_cases e : i = n - 1
    · rw [decide_eq_true e, beq_iff_eq]; omega
    · rw [decide_eq_false e, beq_eq_false_iff_ne]; omega
  have e5 : Lib.trimS (List.drop a (List.take q s)) [32] = [] := by
    refine trim_blank fun b hb => ?_
    obtain ⟨j, hj⟩ := List.mem_iff_getElem?.1 hb
    rw [List.getElem?_drop, List.getElem?_take] at hj
    split at hj
    · rename_i hlt
      have := h4 (a + j) (by omega) hlt
      rw [List.getD_eq_getElem?_getD, hj] at this; exact this
    · cases hj
  rw [h1, Int.toNat_natCast, Int.toNat_natCast, Int.toNat_natCast, e1, e2, e3, e4, e5, List.take_length, List.drop_zero, h5, h6, h7,
    decide_eq_true (show (i : Int) < n by omega), decide_eq_true (show 0 ≤ (i : Int) ∧ (i : Int) < n by omega), decide_eq_true (show 0 + i < n by omega), decide_eq_false (show ¬ (q : Int) < a by omega), decide_eq_false (show ¬ (q : Int) > s.length by omega),
    decide_eq_true (show 0 ≤ (q : Int) ∧ (q : Int) ≤ s.length by omega), decide_eq_true (show 0 ≤ (a : Int) ∧ (a : Int) ≤ (q : Int) by omega), decide_eq_true (show (List.drop a (List.take q s)).length ≤ 9223372036854775807 by rw [List.length_drop, List.length_take]; omega),
    decide_eq_true (show ((List.drop q s).length : Int) ≥ (t.2.1.length : Int) by rw [List.length_drop]; omega), decide_eq_true (show 0 ≤ (t.2.1.length : Int) ∧ (t.2.1.length : Int) ≤ ((List.drop q s).length : Int) by rw [List.length_drop]; omega)]
  simp [brK]
end Go.Proofs.Tryz
