/- Texts of classes: both readings as known functions. -/
import Derived.Test.YtnkdndjhgoahgaaGreatDoorPrs4
import Derived.IntWalk

namespace Go.Proofs.Tryz
open Go.Ad

def rfFin (c0 : UInt8) (L : List UInt8) (h : Bool) (g : Int) : Option AV :=
  if 0 ≤ Lib.indexByte L c0 then (if 5 ≤ g ∧ g ≤ 12 then some (.tuple [.agg [.bool h, .rng .i64 (Lib.indexByte L c0) (-1) 9, .sint .i64 g], .int .i64 0]) else some (clsE 2)) else some (clsE 1)

theorem rfDig_nil {c0 : UInt8} {r L : List UInt8} {h : Bool} {g t : Int} : rfDig (c0 :: r) L h [] g t = rfFin c0 L h g := by
  unfold rfDig rfFin
  rw [List.getD_cons_zero, plcF_byte]
  by_cases h1 : Lib.indexByte L c0 < 0
  · rw [decide_eq_true h1, brT, if_neg (by omega)]
  · rw [decide_eq_false h1, brF, if_pos (by omega)]
    by_cases h2 : g < 5
    · rw [decide_eq_true h2, brT, if_neg (by omega)]
    · rw [decide_eq_false h2, brF]
      by_cases h3 : g > 12
      · rw [decide_eq_true h3, brT, if_neg (by omega)]
      · rw [decide_eq_false h3, brF, if_pos (by omega)]

theorem rfDig_cons {s L : List UInt8} {h : Bool} {is : List Nat} {i : Nat} {g a : Int} (hi : i < s.length) (ha : 0 ≤ a ∧ a ≤ 999) :
    rfDig s L h (i :: is) g (10 * a) = if isDig (s.getD i 0) = true then rfDig s L h is (10 * a + (((s.getD i 0).toNat : Int) - 48)) (10 * (10 * a + (((s.getD i 0).toNat : Int) - 48))) else some (clsE 4) := by
  have hb : decide ((0 : Int) ≤ (i : Int) ∧ (i : Int) < s.length) = true := decide_eq_true (by omega)
  have h255 := (s.getD i 0).toNat_lt
  rw [rfDig, hb, brT, brT, brT]
  by_cases h1 : ((s.getD i 0).toNat : Int) < 48
  · rw [decide_eq_true h1, brT, if_neg]
    simp only [isDig, Bool.and_eq_true, decide_eq_true_eq]; omega
  · rw [decide_eq_false h1, brF]
    by_cases h2 : ((s.getD i 0).toNat : Int) > 57
    · rw [decide_eq_true h2, brT, if_neg]
      simp only [isDig, Bool.and_eq_true, decide_eq_true_eq]; omega
    · rw [decide_eq_false h2, brF, if_pos (by simp only [isDig, Bool.and_eq_true, decide_eq_true_eq]; omega)]
      rw [IntWalk.u8_in _ (by omega), IntWalk.i64_in (((s.getD i 0).toNat : Int) - 48) (by omega), IntWalk.i64_in (10 * a + (((s.getD i 0).toNat : Int) - 48)) (by omega), IntWalk.i64_in _ (by omega)]

theorem rfDigs2 {c0 a : UInt8} {L : List UInt8} {h : Bool} : rfDig [c0, a] L h [1] 0 0 = if [a].all isDig = true then rfFin c0 L h (numF 0 [a]) else some (clsE 4) := by
  rw [show (0 : Int) = 10 * 0 by omega, rfDig_cons (by simp) (by omega), rfDig_nil]
  have e1 : List.getD [c0, a] 1 0 = a := rfl
  rw [e1]
  simp only [List.all_cons, List.all_nil, Bool.and_true, numF]
  rfl
theorem rfDigs3 {c0 a b : UInt8} {L : List UInt8} {h : Bool} : rfDig [c0, a, b] L h [1, 2] 0 0 = if [a, b].all isDig = true then rfFin c0 L h (numF 0 [a, b]) else some (clsE 4) := by
  rw [show (0 : Int) = 10 * 0 by omega, rfDig_cons (by simp) (by omega)]
  have e1 : List.getD [c0, a, b] 1 0 = a := rfl
  have e2 : List.getD [c0, a, b] 2 0 = b := rfl
  rw [e1]
  simp only [List.all_cons, List.all_nil, Bool.and_true, numF]
  by_cases h1 : isDig a = true
  · have h1' := h1
    simp only [isDig, Bool.and_eq_true, decide_eq_true_eq] at h1'
    rw [if_pos h1, rfDig_cons (by simp) (by omega), rfDig_nil, e2, h1, Bool.true_and]
    rfl
  · rw [if_neg h1, if_neg (fun h => h1 (by simp only [Bool.and_eq_true] at h; exact h.1))]
theorem rfDigs4 {c0 a b c : UInt8} {L : List UInt8} {h : Bool} : rfDig [c0, a, b, c] L h [1, 2, 3] 0 0 = if [a, b, c].all isDig = true then rfFin c0 L h (numF 0 [a, b, c]) else some (clsE 4) := by
  rw [show (0 : Int) = 10 * 0 by omega, rfDig_cons (by simp) (by omega)]
  have e1 : List.getD [c0, a, b, c] 1 0 = a := rfl
  have e2 : List.getD [c0, a, b, c] 2 0 = b := rfl
  have e3 : List.getD [c0, a, b, c] 3 0 = c := rfl
  rw [e1]
  simp only [List.all_cons, List.all_nil, Bool.and_true, numF]
  by_cases h1 : isDig a = true
  · have h1' := h1
    simp only [isDig, Bool.and_eq_true, decide_eq_true_eq] at h1'
    rw [if_pos h1, rfDig_cons (by simp) (by omega), e2]
    by_cases h2 : isDig b = true
    · have h2' := h2
      simp only [isDig, Bool.and_eq_true, decide_eq_true_eq] at h2'
      rw [if_pos h2, rfDig_cons (by simp) (by omega), rfDig_nil, e3, h1, h2, Bool.true_and, Bool.true_and]
      rfl
    · rw [if_neg h2, if_neg (fun h => h2 (by simp only [Bool.and_eq_true] at h; exact h.2.1))]
  · rw [if_neg h1, if_neg (fun h => h1 (by simp only [Bool.and_eq_true] at h; exact h.1))]

theorem rfSec_eq {c0 : UInt8} {r L : List UInt8} {h two : Bool} {is : List Nat} (hr : 1 ≤ r.length) (h2 : two = decide (r.length = 1)) (hd : rfDig (c0 :: r) L h is 0 0 = if r.all isDig = true then rfFin c0 L h (numF 0 r) else some (clsE 4)) :
    rfSec (c0 :: r) L h two is = if r.all isDig = true ∧ ¬ (r.getD 0 0 = 48 ∧ 1 < r.length) then rfFin c0 L h (numF 0 r) else some (clsE 4) := by
  unfold rfSec
  have e1 : List.getD (c0 :: r) 1 0 = r.getD 0 0 := by cases r <;> rfl
  have e48 : ((r.getD 0 0).toNat == (48 : Int)) = decide (r.getD 0 0 = 48) := by
    rw [Bool.eq_iff_iff, beq_iff_eq, decide_eq_true_eq, ← UInt8.toNat_inj]
    simp only [UInt8.reduceToNat]; omega
  rw [e1, decide_eq_true (by simp only [List.length_cons]; omega : (0 : Int) ≤ 1 ∧ (1 : Int) < ((c0 :: r).length : Int)), brT, hd]
  have e48' : (((r.getD 0 0).toNat : Int) == 48) = decide (r.getD 0 0 = 48) := e48
  rw [e48', h2]
  by_cases h3 : r.getD 0 0 = 48
  · rw [decide_eq_true h3, brT]
    by_cases h4 : r.length = 1
    · rw [if_pos (decide_eq_true h4)]
      by_cases h5 : r.all isDig = true
      · rw [if_pos h5, if_pos ⟨h5, fun h => by omega⟩]
      · rw [if_neg h5, if_neg fun h => h5 h.1]
    · rw [if_neg (by simp [h4]), if_neg (fun h => h.2 ⟨h3, by omega⟩)]
  · rw [decide_eq_false h3, brF]
    by_cases h5 : r.all isDig = true
    · rw [if_pos h5, if_pos ⟨h5, fun h => h3 h.1⟩]
    · rw [if_neg h5, if_neg fun h => h5 h.1]

theorem rfTree_eq {c0 : UInt8} {r : List UInt8} {two : Bool} {is : List Nat} : rfTree (c0 :: r) two is =
    if 0 ≤ Lib.indexByte lettS c0 then rfSec (c0 :: r) lettS false two is else if 0 ≤ Lib.indexByte capS c0 then rfSec (c0 :: r) capS true two is else some (clsE 4) := by
  unfold rfTree
  have h255 := c0.toNat_lt
  rw [List.getD_cons_zero, plcF_byte, plcF_byte, decide_eq_true (by simp only [List.length_cons]; omega : (0 : Int) ≤ 0 ∧ (0 : Int) < ((c0 :: r).length : Int)), brT, decide_eq_true (by omega : (0 : Int) ≤ (c0.toNat : Int) ∧ (c0.toNat : Int) ≤ 255), brT, brT, brT]
  by_cases h1 : Lib.indexByte lettS c0 < 0
  · rw [decide_eq_true h1, brT, if_neg (by omega)]
    by_cases h2 : Lib.indexByte capS c0 < 0
    · rw [decide_eq_true h2, brT, if_neg (by omega)]
    · rw [decide_eq_false h2, brF, if_pos (by omega)]
  · rw [decide_eq_false h1, brF, brF, if_pos (by omega)]

theorem rfTree_val {c0 : UInt8} {r : List UInt8} {two : Bool} {is : List Nat} (hr : 1 ≤ r.length ∧ r.length ≤ 3) (h2 : two = decide (r.length = 1))
    (hd : ∀ L h, rfDig (c0 :: r) L h is 0 0 = if r.all isDig = true then rfFin c0 L h (numF 0 r) else some (clsE 4)) : ∃ v', rfTree (c0 :: r) two is = some v' ∧ (∀ ι x, VR ι v' x → VR ι (resV (c0 :: r)) x) ∧ below 0 v' = true := by
  have hlc := lett_cap c0
  have eL : letF (c0 :: r) = Lib.indexByte (if c0.toNat < 97 then capS else lettS) c0 := by
    unfold letF holeF s0
    by_cases h : c0.toNat < 97 <;> simp [h]
  have eok : okS (c0 :: r) = decide (0 ≤ Lib.indexByte (if c0.toNat < 97 then capS else lettS) c0 ∧ r.all isDig = true ∧ ¬ (r.getD 0 0 = 48 ∧ 1 < r.length)) := by
    rw [Bool.eq_iff_iff]
    simp only [okS, eL, dgt, List.drop_succ_cons, List.drop_zero, List.length_cons, Bool.and_eq_true, decide_eq_true_eq, Bool.not_eq_true', Bool.and_eq_false_iff, decide_eq_false_iff_not]
    have e1 : List.getD (c0 :: r) 1 0 = r.getD 0 0 := by cases r <;> rfl
    rw [e1]
    constructor
    · rintro ⟨_, h1, h2, h3⟩
      refine ⟨h1, h2, fun h => ?_⟩
      rcases h3 with h3 | h3
      · exact h3 h.1
      · omega
    · rintro ⟨h1, h2, h3⟩
      refine ⟨by omega, h1, h2, ?_⟩
      by_cases h4 : r.getD 0 0 = 48
      · exact .inr fun h5 => h3 ⟨h4, by omega⟩
      · exact .inl h4
  have fin : ∀ (L : List UInt8) (h : Bool), h = decide (c0.toNat < 97) → L = (if c0.toNat < 97 then capS else lettS) → 0 ≤ Lib.indexByte L c0 →
      ∃ v', rfSec (c0 :: r) L h two is = some v' ∧ (∀ ι x, VR ι v' x → VR ι (resV (c0 :: r)) x) ∧ below 0 v' = true := by
    intro L h hh hL h0
    rw [rfSec_eq hr.1 h2 (hd L h)]
    by_cases h3 : r.all isDig = true ∧ ¬ (r.getD 0 0 = 48 ∧ 1 < r.length)
    · rw [if_pos h3]
      have e1 : okS (c0 :: r) = true := by rw [eok]; exact decide_eq_true ⟨hL ▸ h0, h3⟩
      unfold resV rfFin
      rw [e1, cond_true, if_pos h0]
      by_cases hg : 5 ≤ numF 0 r ∧ numF 0 r ≤ 12
      · rw [if_pos hg]
        have e2 : okG (c0 :: r) = true := by simp only [okG, gradF, dgt, List.drop_succ_cons, List.drop_zero, decide_eq_true hg.1, decide_eq_true hg.2]; rfl
        rw [e2, cond_true]
        refine ⟨_, rfl, fun ι x hx => ?_, rfl⟩
        simp only [clsV, eL, holeF, s0, gradF, dgt, List.drop_succ_cons, List.drop_zero, List.getD_cons_zero]
        subst hh hL
        simp only [VR, VRL] at hx ⊢
        obtain ⟨xs, e0, y0, l0, q1, ⟨zs, e3, z0, m0, r1, r2, z1, m1, r3, r4, z2, m2, r5, r6, r7⟩, q2⟩ := hx
        exact ⟨xs, e0, y0, l0, q1, ⟨zs, e3, z0, m0, r1, r2, z1, m1, r3, ⟨r4.1, h0, r4.2.2⟩, z2, m2, r5, ⟨r6, hg⟩, r7⟩, q2⟩
      · rw [if_neg hg]
        have e2 : okG (c0 :: r) = false := by
          simp only [okG, gradF, dgt, List.drop_succ_cons, List.drop_zero, Bool.and_eq_false_iff, decide_eq_false_iff_not]
          by_cases h1 : 5 ≤ numF 0 r
          · exact .inr fun h2 => hg ⟨h1, h2⟩
          · exact .inl h1
        rw [e2, cond_false]
        exact ⟨_, rfl, fun _ _ h => h, rfl⟩
    · rw [if_neg h3]
      have e1 : okS (c0 :: r) = false := by rw [eok]; exact decide_eq_false fun h => h3 h.2
      unfold resV
      rw [e1, cond_false]
      exact ⟨_, rfl, fun _ _ h => h, rfl⟩
  rw [rfTree_eq]
  by_cases h : c0.toNat < 97
  · have e1 := hlc.1 h
    rw [if_neg (by omega)]
    by_cases h1 : 0 ≤ Lib.indexByte capS c0
    · rw [if_pos h1]
      exact fin capS true (decide_eq_true h).symm (by rw [if_pos h]) h1
    · rw [if_neg h1]
      have e1 : okS (c0 :: r) = false := by rw [eok]; exact decide_eq_false fun hh => h1 (by rw [if_pos h] at hh; exact hh.1)
      unfold resV
      rw [e1, cond_false]
      exact ⟨_, rfl, fun _ _ h => h, rfl⟩
  · have e1 := hlc.2 h
    by_cases h1 : 0 ≤ Lib.indexByte lettS c0
    · rw [if_pos h1]
      exact fin lettS false (decide_eq_false h).symm (by rw [if_neg h]) h1
    · rw [if_neg h1, if_neg (by omega)]
      have e1 : okS (c0 :: r) = false := by rw [eok]; exact decide_eq_false fun hh => h1 (by rw [if_neg h] at hh; exact hh.1)
      unfold resV
      rw [e1, cond_false]
      exact ⟨_, rfl, fun _ _ h => h, rfl⟩

def sPrs : List AV → Tr AV
  | [x] => match sstr? x with
    | some s => .br (decide (s.length ≤ 9223372036854775807)) (.br (okS s) (.br (okG s) (.leaf (clsV s)) (.leaf (clsE 2))) (.leaf (clsE 4))) .fail
    | none => .fail
  | _ => .fail

theorem sPrs_sound {f : FuncId} (h1 : ∀ s, (runK prog prs2 60).call f [.lstr s 0 1] (Bg 9) finV = some (clsE 4)) (h5 : ∀ s, (runK prog prs2 60).call f [.lstr s 5 9223372036854775807] (Bg 9) finV = some (clsE 4))
    (hm : ∀ s : List UInt8, 2 ≤ s.length ∧ s.length ≤ 4 → ∃ lo hi : Nat, lo ≤ s.length ∧ s.length ≤ hi ∧ ∃ v', (runK prog prs2 60).call f [.lstr s lo hi] (Bg 9) finV = some v' ∧ (∀ ι x, VR ι v' x → VR ι (resV s) x) ∧ below 0 v' = true)
    (args : List AV) (v : AV) (hg : (sPrs args).get = some v) :
    ∃ args' v' B', (∀ (ι : Emb) (xs : List Value), VRL ι args xs → VRL ι args' xs) ∧ (∀ (ι : Emb) (x : Value), VR ι v' x → VR ι v x) ∧ belowL 0 args' = true ∧ below 0 v' = true ∧
      Ca prog prs2 f args' (Bg prog.globals.size) (v', B', []) := by
  unfold sPrs at hg
  split at hg
  · rename_i x
    split at hg
    · rename_i s hx
      obtain ⟨hlen, hv⟩ := Tr.br_get0 hg
      rw [decide_eq_true_eq] at hlen
      have hv' : v = resV s := by
        unfold resV
        cases h1 : okS s <;> simp only [h1, Tr.get] at hv
        · cases hv; rfl
        · cases h2 : okG s <;> simp only [h2] at hv
          · cases hv; rfl
          · cases hv; rfl
      subst hv'
      have hw : ∀ (lo hi : Nat), lo ≤ s.length → s.length ≤ hi → ∀ (ι : Emb) (xs : List Value), VRL ι [x] xs → VRL ι [.lstr s lo hi] xs := fun lo hi h1 h2 ι xs hx' => by
        simp only [VRL] at hx' ⊢
        obtain ⟨y, ys, rfl, q1, rfl⟩ := hx'
        obtain ⟨b, r1, rfl⟩ := sstr?_VR hx q1
        exact ⟨_, _, rfl, by simp only [VR]; exact ⟨⟨b, r1, rfl⟩, h1, h2⟩, rfl⟩
      by_cases c1 : s.length ≤ 1
      · have e : resV s = clsE 4 := by
          have : okS s = false := by simp only [okS, decide_eq_false (by omega : ¬ 2 ≤ s.length), Bool.false_and]
          unfold resV; rw [this]; rfl
        rw [e]
        obtain ⟨B', hca⟩ := Ca.of_finV (h1 s)
        exact ⟨_, _, B', hw 0 1 (by omega) c1, fun _ _ h => h, rfl, rfl, by rw [gsz]; exact hca⟩
      · by_cases c2 : s.length ≤ 4
        · obtain ⟨lo, hi, l1, l2, v', r1, r2, r3⟩ := hm s ⟨by omega, c2⟩
          obtain ⟨B', hca⟩ := Ca.of_finV r1
          exact ⟨_, _, B', hw lo hi l1 l2, r2, rfl, r3, by rw [gsz]; exact hca⟩
        · have e : resV s = clsE 4 := by
            have : okS s = false := by simp only [okS, decide_eq_false c2, Bool.and_false, Bool.false_and]
            unfold resV; rw [this]; rfl
          rw [e]
          obtain ⟨B', hca⟩ := Ca.of_finV (h5 s)
          exact ⟨_, _, B', hw 5 _ (by omega) hlen, fun _ _ h => h, rfl, rfl, by rw [gsz]; exact hca⟩
    · cases hg
  · cases hg

/-- The readings of texts of classes, added to what is known. -/
def prs3 (prims : Prims) : Prims := (prims.addt 10 sPrs).addt 11 sPrs

theorem prs3_ok {A : Amb} (hT : Tab A) (hG : prog.globals.size ≤ A.G) {prims : Prims} (hp : PrimOK prog A prims) : PrimOK prog A (prs3 prims) := by
  have h2 := prs2_ok hT hG
  refine PrimOK.addt2 hmix hnum h2 (PrimOK.addt2 hmix hnum h2 hp hG func10 (by kernel_rfl) ?_) hG func11 (by kernel_rfl) ?_
  · exact sPrs_sound prRun1 prRun5 fun s hs => by
      obtain ⟨v', h1, h2, h3⟩ := prTree_val hs
      exact ⟨2, 4, hs.1, hs.2, v', (prRun s).trans h1, h2, h3⟩
  · refine sPrs_sound rfRun1 rfRun5 fun s hs => ?_
    match s, hs with
    | [c0, a], _ =>
      obtain ⟨v', h1, h2, h3⟩ := rfTree_val (c0 := c0) (r := [a]) (two := true) (is := [1]) (by simp) rfl (fun L h => rfDigs2)
      exact ⟨2, 2, by simp, by simp, v', (rfRun2 _).trans h1, h2, h3⟩
    | [c0, a, b], _ =>
      obtain ⟨v', h1, h2, h3⟩ := rfTree_val (c0 := c0) (r := [a, b]) (two := false) (is := [1, 2]) (by simp) rfl (fun L h => rfDigs3)
      exact ⟨3, 3, by simp, by simp, v', (rfRun3 _).trans h1, h2, h3⟩
    | [c0, a, b, c], _ =>
      obtain ⟨v', h1, h2, h3⟩ := rfTree_val (c0 := c0) (r := [a, b, c]) (two := false) (is := [1, 2, 3]) (by simp) rfl (fun L h => rfDigs4)
      exact ⟨4, 4, by simp, by simp, v', (rfRun4 _).trans h1, h2, h3⟩
#print axioms prs3_ok
end Go.Proofs.Tryz
