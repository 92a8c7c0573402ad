/- The lexer's program: the token at the beginning of a text, by the program and by the reference. -/
import Derived.Test.YtfjgehlpjppggaaGreatDoorWord
import Derived.Test.YtfjgehlpjppggaaGreatDoorAdPat

namespace Go.Proofs.Tryz
open Go.Ad

/-- Kind, length and error of the token at the beginning of a text. -/
def tokK (s : List UInt8) : Int × Nat × Int :=
  bif letB (bAt s 0) then (0, wordN s, errW (s.take (wordN s))) else bif digB (bAt s 0) then (1, (numN s).1, errN (s.take (numN s).1)) else bif markB (bAt s 0) then (2, 1, 0) else (0, 0, 4)

def tokV (t : Int × Nat × Int) : AV := .tuple [.sint .i64 t.1, .sint .i64 t.2.1, .sint .i64 t.2.2]

theorem vr_tup3 {ι : Emb} {a b c a' b' c' : AV} (h1 : ∀ v, VR ι a v → VR ι a' v) (h2 : ∀ v, VR ι b v → VR ι b' v) (h3 : ∀ v, VR ι c v → VR ι c' v) (x : Value) (h : VR ι (.tuple [a, b, c]) x) : VR ι (.tuple [a', b', c']) x := by
  simp only [VR, VRL] at h ⊢
  obtain ⟨xs, rfl, x1, r1, e1, q1, x2, r2, e2, q2, x3, r3, e3, q3, q4⟩ := h
  exact ⟨xs, rfl, x1, r1, e1, h1 _ q1, x2, r2, e2, h2 _ q2, x3, r3, e3, h3 _ q3, q4⟩

theorem wordN_le (s : List UInt8) : wordN s ≤ s.length := by
  unfold wordN
  have := lenC_le [1, 2, 3] s
  cases letB (bAt s 0) && !s.isEmpty <;> simp [this]

theorem scan_pos {p : Nat → Bool} {k : Nat} (hk : 0 < k) (h : p 0 = true) : 0 < scanN p k 0 := by
  obtain ⟨j, rfl⟩ : ∃ j, k = j + 1 := ⟨k - 1, by omega⟩
  simp only [scanN, h, cond_true]
  have := (scanN_le p j (0 + 1)).1
  omega

theorem wordN_pos {s : List UInt8} (hne : s.isEmpty = false) : 0 < wordN s ↔ letB (bAt s 0) = true := by
  have hl : 0 < s.length := by cases s with | nil => simp at hne | cons => simp
  unfold wordN
  rw [hne]
  cases h : letB (bAt s 0) with
  | false => simp
  | true =>
    simp only [Bool.not_false, Bool.and_self, cond_true, iff_true]
    exact scan_pos hl (by simp [pCl, cls1, h])

theorem numN_pos {s : List UInt8} (hne : s.isEmpty = false) : 0 < (numN s).1 ↔ digB (bAt s 0) = true := by
  have hl : 0 < s.length := by cases s with | nil => simp at hne | cons => simp
  obtain ⟨h1, h2, h3, h4⟩ := numN_le s
  have e : 0 < (numN s).1 ↔ 0 < lenC [2] s := by omega
  rw [e]
  constructor
  · intro h
    have := scanN_true (p := pCl [2] s) (k := s.length) (n := 0) (m := 0) (Nat.le_refl _) h
    simpa [pCl, cls2] using this
  · intro h
    exact scan_pos hl (by simp [pCl, cls2, h])

theorem szOK_take {s : List UInt8} (hs : szOK s = true) (n : Nat) : szOK (s.take n) = true := by
  have := of_decide_eq_true hs
  exact decide_eq_true (by rw [List.length_take]; omega)

theorem dig_let (c : Int) (h : digB c = true) : letB c = false := by
  unfold digB at h; unfold letB
  have := of_decide_eq_true h
  exact decide_eq_false (by omega)
theorem mark_let {c : Int} (h0 : 0 ≤ c) (h1 : c < 256) (h : markB c = true) : letB c = false ∧ digB c = false := by
  obtain ⟨n, rfl⟩ : ∃ n : Nat, c = n := ⟨c.toNat, by omega⟩
  have hp := List.all_eq_true.1 mark_plain n (List.mem_range.2 (by omega))
  rw [h] at hp
  simp at hp
  exact ⟨by simpa using hp.1.1.1, by simpa using hp.1.1.2⟩

theorem run48 (s : List UInt8) (hs : szOK s = true) (hne : s.isEmpty = false) : ∃ v', (runK prog pE 60).call 48 [.sstr s] (Bg 8) finV = some v' ∧ below 0 v' = true ∧ ∀ ι x, VR ι v' x → VR ι (tokV (tokK s)) x := by
  have h : (runK prog pE 60).call 48 [.sstr s] (Bg 8) finV =
      brK (decide ((0 : Int) ≤ 0 ∧ (0 : Int) < (s.length : Int))) (brK (clsI (bAt s 0) == 1) (brK (szOK s) (brK (decide (0 ≤ (wordN s : Int) ∧ (wordN s : Int) ≤ (s.length : Int)) && true) (brK (szOK (List.drop 0 (List.take (wordN s) s)))
          (some (.tuple [.int .i64 0, .sint .i64 (wordN s), .sint .i64 (errW (List.drop 0 (List.take (wordN s) s)))])) none) none) none)
        (brK (clsI (bAt s 0) == 2) (brK (szOK s) (brK (decide (0 ≤ ((numN s).1 : Int) ∧ ((numN s).1 : Int) ≤ (s.length : Int)) && true) (brK (szOK (List.drop 0 (List.take (numN s).1 s)))
          (some (.tuple [.int .i64 1, .sint .i64 (numN s).1, .sint .i64 (errN (List.drop 0 (List.take (numN s).1 s)))])) none) none) none)
        (brK (clsI (bAt s 0) == 4) (some (.tuple [.int .i64 2, .int .i64 1, .int .i64 0])) (some (.tuple [.int .i64 0, .int .i64 0, .int .i64 4]))))) none := by kernel_rfl
  have hl : 0 < s.length := by cases s with | nil => simp at hne | cons => simp
  have hw := wordN_le s
  have hn := (numN_le s).2.1
  obtain ⟨b0, b1⟩ := bAt_range s 0
  rw [h, decide_eq_true (show (0 : Int) ≤ 0 ∧ (0 : Int) < (s.length : Int) by omega), brT, hs, cls1, cls2, cls4 b0 b1, List.drop_zero, List.drop_zero, szOK_take hs, szOK_take hs,
    decide_eq_true (show 0 ≤ (wordN s : Int) ∧ (wordN s : Int) ≤ (s.length : Int) by omega), decide_eq_true (show 0 ≤ ((numN s).1 : Int) ∧ ((numN s).1 : Int) ≤ (s.length : Int) by omega)]
  unfold tokK
  cases letB (bAt s 0) with
  | true => exact ⟨_, rfl, rfl, fun ι => vr_tup3 (vr_int rfl) (fun _ h => h) (fun _ h => h)⟩
  | false => cases digB (bAt s 0) with
    | true => exact ⟨_, rfl, rfl, fun ι => vr_tup3 (vr_int rfl) (fun _ h => h) (fun _ h => h)⟩
    | false => cases markB (bAt s 0) with
      | true => exact ⟨_, rfl, rfl, fun ι => vr_tup3 (vr_int rfl) (vr_int rfl) (vr_int rfl)⟩
      | false => exact ⟨_, rfl, rfl, fun ι => vr_tup3 (vr_int rfl) (vr_int rfl) (vr_int rfl)⟩

theorem run49 (s : List UInt8) (hs : szOK s = true) (hne : s.isEmpty = false) : ∃ v', (runK prog pE 60).call 49 [.sstr s] (Bg 8) finV = some v' ∧ below 0 v' = true ∧ ∀ ι x, VR ι v' x → VR ι (tokV (tokK s)) x := by
  have h : (runK prog pE 60).call 49 [.sstr s] (Bg 8) finV =
      brK (szOK s) (brK (decide ((wordN s : Int) > 0)) (brK (decide (0 ≤ (wordN s : Int) ∧ (wordN s : Int) ≤ (s.length : Int)) && true) (brK (szOK (List.drop 0 (List.take (wordN s) s)))
          (some (.tuple [.int .i64 0, .sint .i64 (wordN s), .sint .i64 (errW (List.drop 0 (List.take (wordN s) s)))])) none) none)
        (brK (szOK s) (brK (decide (((numN s).1 : Int) > 0)) (brK (decide (0 ≤ ((numN s).1 : Int) ∧ ((numN s).1 : Int) ≤ (s.length : Int)) && true) (brK (szOK (List.drop 0 (List.take (numN s).1 s)))
          (some (.tuple [.int .i64 1, .sint .i64 (numN s).1, .sint .i64 (errN (List.drop 0 (List.take (numN s).1 s)))])) none) none)
        (brK (decide ((0 : Int) ≤ 0 ∧ (0 : Int) < (s.length : Int))) (brK (markB (bAt s 0)) (some (.tuple [.int .i64 2, .int .i64 1, .int .i64 0])) (some (.tuple [.int .i64 0, .int .i64 0, .int .i64 4]))) none)) none)) none := by kernel_rfl
  have hl : 0 < s.length := by cases s with | nil => simp at hne | cons => simp
  have hw := wordN_le s
  have hn := (numN_le s).2.1
  have e1 : decide ((wordN s : Int) > 0) = letB (bAt s 0) := by
    have := wordN_pos hne
    cases hc : letB (bAt s 0) with
    | true => exact decide_eq_true (by rw [hc] at this; have := this.2 rfl; omega)
    | false => exact decide_eq_false (by rw [hc] at this; simp at this; omega)
  have e2 : decide (((numN s).1 : Int) > 0) = digB (bAt s 0) := by
    have := numN_pos hne
    cases hc : digB (bAt s 0) with
    | true => exact decide_eq_true (by rw [hc] at this; have := this.2 rfl; omega)
    | false => exact decide_eq_false (by rw [hc] at this; simp at this; omega)
  rw [h, hs, e1, e2, decide_eq_true (show (0 : Int) ≤ 0 ∧ (0 : Int) < (s.length : Int) by omega), List.drop_zero, List.drop_zero, szOK_take hs, szOK_take hs,
    decide_eq_true (show 0 ≤ (wordN s : Int) ∧ (wordN s : Int) ≤ (s.length : Int) by omega), decide_eq_true (show 0 ≤ ((numN s).1 : Int) ∧ ((numN s).1 : Int) ≤ (s.length : Int) by omega)]
  unfold tokK
  cases letB (bAt s 0) with
  | true => exact ⟨_, rfl, rfl, fun ι => vr_tup3 (vr_int rfl) (fun _ h => h) (fun _ h => h)⟩
  | false => cases digB (bAt s 0) with
    | true => exact ⟨_, rfl, rfl, fun ι => vr_tup3 (vr_int rfl) (fun _ h => h) (fun _ h => h)⟩
    | false => cases markB (bAt s 0) with
      | true => exact ⟨_, rfl, rfl, fun ι => vr_tup3 (vr_int rfl) (vr_int rfl) (vr_int rfl)⟩
      | false => exact ⟨_, rfl, rfl, fun ι => vr_tup3 (vr_int rfl) (vr_int rfl) (vr_int rfl)⟩

def gTok : List Lf → Tr AV
  | [.s s] => .br (szOK s && !s.isEmpty) (.leaf (tokV (tokK s))) .fail
  | _ => .fail
noncomputable def pT : Prims := (pE.addt 48 (gP [.str] gTok)).addt 49 (gP [.str] gTok)

theorem pT_ok {A : Amb} (hT : Tab A) (hG : prog.globals.size ≤ A.G) : PrimOK prog A pT := by
  have h0 := pE_ok hT hG
  have key : ∀ (f : FuncId), (∀ s, szOK s = true → s.isEmpty = false → ∃ v', (runK prog pE 60).call f [.sstr s] (Bg 8) finV = some v' ∧ below 0 v' = true ∧ ∀ ι x, VR ι v' x → VR ι (tokV (tokK s)) x) → ∀ ls v, (gTok ls).get = some v →
      belowL 0 (mkT [.str] ls).1 = true ∧ ∃ n v', (runK prog pE n).call f (mkT [.str] ls).1 (Bg prog.globals.size) finV = some v' ∧ below 0 v' = true ∧ ∀ ι x, VR ι v' x → VR ι v x := by
    intro f hr ls v h
    unfold gTok at h
    split at h
    · rename_i s
      obtain ⟨hs, hv⟩ := Tr.br1 h
      cases hv
      simp only [Bool.and_eq_true, Bool.not_eq_true'] at hs
      obtain ⟨v', q1, q2, q3⟩ := hr s hs.1 hs.2
      exact ⟨rfl, 60, v', by rw [gsz]; exact q1, q2, q3⟩
    · cases h
  exact PrimOK.addP hmix hnum h0 (PrimOK.addP hmix hnum h0 h0 hG func48 (by kernel_rfl) (key _ run48)) hG func49 (by kernel_rfl) (key _ run49)

/-- A token without error has at least one byte and lies in the text. -/
theorem tokK_le (s : List UInt8) (hne : s.isEmpty = false) : (tokK s).2.1 ≤ s.length ∧ ((tokK s).2.2 = 0 → 0 < (tokK s).2.1) := by
  have hl : 0 < s.length := by cases s with | nil => simp at hne | cons => simp
  have hw := wordN_le s
  have hn := (numN_le s).2.1
  have p1 := wordN_pos hne
  have p2 := numN_pos hne
  unfold tokK
  cases h1 : letB (bAt s 0) with
  | true => exact ⟨hw, fun _ => p1.2 h1⟩
  | false => cases h2 : digB (bAt s 0) with
    | true => exact ⟨hn, fun _ => p2.2 h2⟩
    | false => cases markB (bAt s 0) with
      | true => exact ⟨hl, fun _ => Nat.one_pos⟩
      | false => exact ⟨Nat.zero_le _, fun h => by cases h⟩
end Go.Proofs.Tryz
