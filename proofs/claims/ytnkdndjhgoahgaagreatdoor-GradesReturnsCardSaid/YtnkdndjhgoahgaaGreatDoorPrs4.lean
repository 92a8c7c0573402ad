/- Texts of classes: what both readings give. -/
import Derived.Test.YtnkdndjhgoahgaaGreatDoorPrs3

namespace Go.Proofs.Tryz
open Go.Ad

theorem plcF_byte (L : List UInt8) (b : UInt8) : plcF L (b.toNat : Int) = Lib.indexByte L b := by
  unfold plcF
  simp

theorem dropWhile_nil {p : UInt8 → Bool} : ∀ {l : List UInt8}, l.dropWhile p = [] ↔ l.all p = true
  | [] => by simp
  | b :: r => by
    simp only [List.dropWhile_cons, List.all_cons, Bool.and_eq_true]
    cases h : p b with
    | true => simp only [if_true, true_and]; exact dropWhile_nil
    | false => simp

theorem digsS_has (b : UInt8) : digsS.contains b = isDig b := by
  have h : ((List.range 256).all fun n => digsS.contains n.toUInt8 == isDig n.toUInt8) = true := by kernel_rfl
  have hb := List.all_eq_true.1 h b.toNat (List.mem_range.2 b.toNat_lt)
  have e : b.toNat.toUInt8 = b := by simp
  rw [e] at hb
  simpa using hb

theorem trimS_nil (l : List UInt8) : (Lib.trimS l digsS == []) = l.all isDig := by
  have e : (fun b => digsS.contains b) = isDig := funext digsS_has
  rw [Bool.eq_iff_iff, beq_iff_eq]
  simp only [Lib.trimS, Lib.trimLeftS, Lib.trimRightS, e]
  rw [dropWhile_nil]
  constructor
  · intro h
    cases ha : l.all isDig with
    | true => rfl
    | false =>
      exfalso
      have hne : l.reverse.dropWhile isDig ≠ [] := by
        intro h2
        rw [dropWhile_nil, List.all_reverse, ha] at h2; cases h2
      match hd : l.reverse.dropWhile isDig, hne with
      | b :: r, _ =>
        have h1 : isDig b = false := by
          have := List.head?_dropWhile_not isDig l.reverse
          rw [hd] at this
          simpa using this
        rw [hd, List.all_reverse, List.all_cons, h1] at h
        cases h
  · intro h
    have : l.reverse.dropWhile isDig = [] := by rw [dropWhile_nil, List.all_reverse]; exact h
    rw [this]; rfl

theorem prNum_eq {c0 : UInt8} {r L : List UInt8} (hr : 1 ≤ r.length ∧ r.length ≤ 3) (hd : r.all isDig = true) :
    prNum (c0 :: r) L = if 5 ≤ numF 0 r ∧ numF 0 r ≤ 12 then some (.tuple [.agg [.sbool (decide (c0.toNat < 97)), .rng .i64 (Lib.indexByte L c0) (-1) 9, .rng .i64 (numF 0 r) 0 999], .int .i64 0]) else some (clsE 2) := by
  have e : List.drop 1 (List.take (c0 :: r).length (c0 :: r)) = r := by rw [List.take_length]; rfl
  unfold prNum
  rw [e, hd, decide_eq_true (by omega : 0 < r.length), decide_eq_true hr.2]
  simp only [Bool.true_and, brT]
  by_cases h1 : numF 0 r < 5
  · rw [decide_eq_true h1, brT, if_neg (by omega)]
  · rw [decide_eq_false h1, brF]
    by_cases h2 : numF 0 r > 12
    · rw [decide_eq_true h2, brT, if_neg (by omega)]
    · rw [decide_eq_false h2, brF, if_pos (by omega)]
      have : (decide (((List.getD (c0 :: r) 0 0).toNat : Int) < 97)) = decide (c0.toNat < 97) := by
        rw [decide_eq_decide]; simp only [List.getD_cons_zero]; omega
      rw [this]; rfl

theorem prSec_eq {c0 : UInt8} {r L : List UInt8} (hr : 1 ≤ r.length ∧ r.length ≤ 3) :
    prSec (c0 :: r) L = if 0 ≤ Lib.indexByte L c0 ∧ r.all isDig = true ∧ ¬ (r.getD 0 0 = 48 ∧ 1 < r.length) then prNum (c0 :: r) L else some (clsE 4) := by
  have e : List.drop 1 (List.take (c0 :: r).length (c0 :: r)) = r := by rw [List.take_length]; rfl
  have e2 : (List.drop 0 (List.take 1 (c0 :: r))).headD 0 = c0 := rfl
  unfold prSec
  rw [e, e2, trimS_nil, decide_eq_true (by simp; omega : (0 : Int) ≤ 1 ∧ (1 : Int) ≤ ((c0 :: r).length : Int)), Bool.true_and, brT, decide_eq_true (by omega : r.length ≤ 9223372036854775807), decide_eq_true (by omega : (0 : Int) ≤ 0 ∧ (0 : Int) < (r.length : Int))]
  by_cases h1 : Lib.indexByte L c0 < 0
  · rw [decide_eq_true h1, brT, if_neg (by omega)]
  · rw [decide_eq_false h1, brF, brT]
    cases hd : r.all isDig with
    | false => rw [Bool.not_false, brT, if_neg (by simp)]
    | true =>
      rw [Bool.not_true, brF, brT]
      have e48 : ((r.getD 0 0).toNat == (48 : Int)) = decide (r.getD 0 0 = 48) := by
        rw [Bool.eq_iff_iff, beq_iff_eq, decide_eq_true_eq, ← UInt8.toNat_inj]
        simp only [UInt8.reduceToNat]; omega
      have e1 : decide ((r.length : Int) > 1) = decide (1 < r.length) := by rw [decide_eq_decide]; omega
      rw [e48, e1]
      by_cases h2 : r.getD 0 0 = 48
      · rw [decide_eq_true h2, brT]
        by_cases h3 : 1 < r.length
        · rw [decide_eq_true h3, brT, if_neg (fun h => h.2.2 ⟨h2, h3⟩)]
        · rw [decide_eq_false h3, brF, if_pos ⟨by omega, rfl, fun h => h3 h.2⟩]
      · rw [decide_eq_false h2, brF, if_pos ⟨by omega, rfl, fun h => h2 h.1⟩]

theorem prTree_eq {c0 : UInt8} {r : List UInt8} (hr : 1 ≤ r.length ∧ r.length ≤ 3) : prTree (c0 :: r) = prSec (c0 :: r) (if c0.toNat < 97 then capS else lettS) := by
  unfold prTree
  have e1 : decide ((0 : Int) ≤ 0 ∧ (0 : Int) < ((c0 :: r).length : Int)) = true := decide_eq_true (by simp only [List.length_cons]; omega)
  have e2 : decide ((0 : Int) ≤ 1 ∧ (1 : Int) ≤ ((c0 :: r).length : Int)) = true := decide_eq_true (by simp only [List.length_cons]; omega)
  have e3 : decide ((List.drop 0 (List.take 1 (c0 :: r))).length = 1) = true := rfl
  have e4 : decide (((List.getD (c0 :: r) 0 0).toNat : Int) < 97) = decide (c0.toNat < 97) := by rw [decide_eq_decide]; simp only [List.getD_cons_zero]; omega
  rw [e1, e2, e3, e4]
  simp only [Bool.true_and, brT]
  by_cases h : c0.toNat < 97
  · rw [decide_eq_true h, brT, if_pos h]
  · rw [decide_eq_false h, brF, if_neg h]

/-- The value of both readings. -/
def resV (s : List UInt8) : AV := bif okS s then (bif okG s then clsV s else clsE 2) else clsE 4

theorem prTree_val {s : List UInt8} (hs : 2 ≤ s.length ∧ s.length ≤ 4) : ∃ v', prTree s = some v' ∧ (∀ ι x, VR ι v' x → VR ι (resV s) x) ∧ below 0 v' = true := by
  match s, hs with
  | c0 :: r, hs =>
    have hr : 1 ≤ r.length ∧ r.length ≤ 3 := by simp only [List.length_cons] at hs; omega
    rw [prTree_eq hr, prSec_eq hr]
    have eL : letF (c0 :: r) = Lib.indexByte (if c0.toNat < 97 then capS else lettS) c0 := by
      unfold letF holeF s0
      by_cases h : c0.toNat < 97 <;> simp [h]
    have eok : okS (c0 :: r) = decide (0 ≤ Lib.indexByte (if c0.toNat < 97 then capS else lettS) c0 ∧ r.all isDig = true ∧ ¬ (r.getD 0 0 = 48 ∧ 1 < r.length)) := by
      rw [Bool.eq_iff_iff]
      simp only [okS, eL, dgt, List.drop_succ_cons, List.drop_zero, List.length_cons, Bool.and_eq_true, decide_eq_true_eq, Bool.not_eq_true', Bool.and_eq_false_iff, decide_eq_false_iff_not]
      constructor
      · rintro ⟨_, h1, h2, h3⟩
        refine ⟨h1, h2, fun h => ?_⟩
        rcases h3 with h3 | h3
        · exact h3 h.1
        · omega
      · rintro ⟨h1, h2, h3⟩
        refine ⟨by omega, h1, h2, ?_⟩
        by_cases h4 : r.getD 0 0 = 48
        · exact .inr fun h5 => h3 ⟨h4, by omega⟩
        · exact .inl h4
    by_cases h : 0 ≤ Lib.indexByte (if c0.toNat < 97 then capS else lettS) c0 ∧ r.all isDig = true ∧ ¬ (r.getD 0 0 = 48 ∧ 1 < r.length)
    · rw [if_pos h, prNum_eq hr h.2.1]
      have e1 : okS (c0 :: r) = true := by rw [eok]; exact decide_eq_true h
      unfold resV
      rw [e1, cond_true]
      by_cases hg : 5 ≤ numF 0 r ∧ numF 0 r ≤ 12
      · rw [if_pos hg]
        have e2 : okG (c0 :: r) = true := by simp only [okG, gradF, dgt, List.drop_succ_cons, List.drop_zero, decide_eq_true hg.1, decide_eq_true hg.2]; rfl
        rw [e2, cond_true]
        refine ⟨_, rfl, fun ι x hx => ?_, rfl⟩
        simp only [clsV, eL, holeF, s0, gradF, dgt, List.drop_succ_cons, List.drop_zero, List.getD_cons_zero]
        simp only [VR, VRL] at hx ⊢
        obtain ⟨xs, e0, y0, l0, q1, ⟨zs, e3, z0, m0, r1, r2, z1, m1, r3, r4, z2, m2, r5, r6, r7⟩, q2⟩ := hx
        exact ⟨xs, e0, y0, l0, q1, ⟨zs, e3, z0, m0, r1, r2, z1, m1, r3, ⟨r4.1, h.1, r4.2.2⟩, z2, m2, r5, ⟨r6.1, hg⟩, r7⟩, q2⟩
      · rw [if_neg hg]
        have e2 : okG (c0 :: r) = false := by
          simp only [okG, gradF, dgt, List.drop_succ_cons, List.drop_zero, Bool.and_eq_false_iff, decide_eq_false_iff_not]
          by_cases h1 : 5 ≤ numF 0 r
          · exact .inr fun h2 => hg ⟨h1, h2⟩
          · exact .inl h1
        rw [e2, cond_false]
        exact ⟨_, rfl, fun _ _ h => h, rfl⟩
    · rw [if_neg h]
      have e1 : okS (c0 :: r) = false := by rw [eok]; exact decide_eq_false h
      unfold resV
      rw [e1, cond_false]
      exact ⟨_, rfl, fun _ _ h => h, rfl⟩
end Go.Proofs.Tryz
