/- The lexer's program: what is wrong with a token, and where a blank stands between two. -/
import Derived.Test.YtfjgehlpjppggaaGreatDoorScanT

namespace Go.Proofs.Tryz
open Go.Ad

def formE (k : Int) (t : List UInt8) (l : Bool) : Int :=
  if k = 0 then errW t else if k = 1 then errN t else if k = 2 then (if t.length = 1 ∧ markB (bAt t 0) = true then 0 else 3) else if k = 3 then (if l = true then (if t = [] then 0 else 3) else 9) else 1
def apartB (a b : Int) : Bool := (b == 1 && (a == 0 || a == 1)) || (a == 0 && b == 0)

theorem run50 (k : Int) (t : List UInt8) (l : Bool) (hs : szOK t = true) : ∃ v', (runK prog pS 60).call 50 [.agg [.sint .i64 k, .sstr t, .bad], .sbool l] (Bg 8) finV = some v' ∧ below 0 v' = true ∧ ∀ ι x, VR ι v' x → VR ι (.sint .i64 (formE k t l)) x := by
  have h : (runK prog pS 60).call 50 [.agg [.sint .i64 k, .sstr t, .bad], .sbool l] (Bg 8) finV = brK (k == 0) (brK (szOK t) (some (.sint .i64 (errW t))) none) (brK (k == 1) (brK (szOK t) (some (.sint .i64 (errN t))) none)
      (brK (k == 2) (brK ((t.length : Int) == 1) (brK (decide ((0 : Int) ≤ 0 ∧ (0 : Int) < (t.length : Int))) (brK (!clsI (bAt t 0) == 4) (some (.int .i64 3)) (some (.int .i64 0))) none) (some (.int .i64 3)))
      (brK (k == 3) (brK (!l) (some (.int .i64 9)) (brK (!t == []) (some (.int .i64 3)) (some (.int .i64 0)))) (some (.int .i64 1))))) := by kernel_rfl
  rw [h, hs]
  unfold formE
  obtain ⟨b0, b1⟩ := bAt_range t 0
  by_cases h0 : k = 0
  · subst h0; exact ⟨_, rfl, rfl, fun ι x h => h⟩
  by_cases h1 : k = 1
  · subst h1; exact ⟨_, rfl, rfl, fun ι x h => h⟩
  by_cases h2 : k = 2
  · subst h2
    by_cases hl : t.length = 1
    · rw [show ((t.length : Int) == 1) = true by rw [hl]; rfl, decide_eq_true (show (0 : Int) ≤ 0 ∧ (0 : Int) < (t.length : Int) by omega), cls4 b0 b1]
      cases hm : markB (bAt t 0) with
      | true => exact ⟨_, rfl, rfl, fun ι => vr_int (by simp [hl])⟩
      | false => exact ⟨_, rfl, rfl, fun ι => vr_int (by simp)⟩
    · rw [show ((t.length : Int) == 1) = false by rw [beq_eq_false_iff_ne]; omega]
      exact ⟨_, rfl, rfl, fun ι => vr_int (by simp [hl])⟩
  by_cases h3 : k = 3
  · subst h3
    cases l with
    | false => exact ⟨_, rfl, rfl, fun ι => vr_int rfl⟩
    | true =>
      by_cases ht : t = []
      · subst ht; exact ⟨_, rfl, rfl, fun ι => vr_int rfl⟩
      · rw [show (t == []) = false by rw [beq_eq_false_iff_ne]; exact ht]
        exact ⟨_, rfl, rfl, fun ι => vr_int (by simp [ht])⟩
  · have e0 : (k == 0) = false := by rw [beq_eq_false_iff_ne]; exact h0
    have e1 : (k == 1) = false := by rw [beq_eq_false_iff_ne]; exact h1
    have e2 : (k == 2) = false := by rw [beq_eq_false_iff_ne]; exact h2
    have e3 : (k == 3) = false := by rw [beq_eq_false_iff_ne]; exact h3
    rw [e0, e1, e2, e3, if_neg h0, if_neg h1, if_neg h2, if_neg h3]
    exact ⟨_, rfl, rfl, fun ι => vr_int rfl⟩

theorem run56 (k : Int) (t : List UInt8) (l : Bool) (hs : szOK t = true) : ∃ v', (runK prog pS 60).call 56 [.agg [.sint .i64 k, .sstr t, .bad], .sbool l] (Bg 8) finV = some v' ∧ below 0 v' = true ∧ ∀ ι x, VR ι v' x → VR ι (.sint .i64 (formE k t l)) x := by
  have h : (runK prog pS 60).call 56 [.agg [.sint .i64 k, .sstr t, .bad], .sbool l] (Bg 8) finV = brK (k == 0) (brK (szOK t) (some (.sint .i64 (errW t))) none) (brK (k == 1) (brK (szOK t) (some (.sint .i64 (errN t))) none)
      (brK (k == 2) (brK ((t.length : Int) != 1) (some (.int .i64 3)) (brK (decide ((0 : Int) ≤ 0 ∧ (0 : Int) < (t.length : Int))) (brK (!markB (bAt t 0)) (some (.int .i64 3)) (some (.int .i64 0))) none))
      (brK (k == 3) (brK (!l) (some (.int .i64 9)) (brK (!t == []) (some (.int .i64 3)) (some (.int .i64 0)))) (some (.int .i64 1))))) := by kernel_rfl
  rw [h, hs]
  unfold formE
  by_cases h0 : k = 0
  · subst h0; exact ⟨_, rfl, rfl, fun ι x h => h⟩
  by_cases h1 : k = 1
  · subst h1; exact ⟨_, rfl, rfl, fun ι x h => h⟩
  by_cases h2 : k = 2
  · subst h2
    by_cases hl : t.length = 1
    · rw [show ((t.length : Int) != 1) = false by rw [hl]; rfl, decide_eq_true (show (0 : Int) ≤ 0 ∧ (0 : Int) < (t.length : Int) by omega)]
      cases hm : markB (bAt t 0) with
      | true => exact ⟨_, rfl, rfl, fun ι => vr_int (by simp [hl])⟩
      | false => exact ⟨_, rfl, rfl, fun ι => vr_int (by simp)⟩
    · rw [show ((t.length : Int) != 1) = true by rw [bne_iff_ne]; omega]
      exact ⟨_, rfl, rfl, fun ι => vr_int (by simp [hl])⟩
  by_cases h3 : k = 3
  · subst h3
    cases l with
    | false => exact ⟨_, rfl, rfl, fun ι => vr_int rfl⟩
    | true =>
      by_cases ht : t = []
      · subst ht; exact ⟨_, rfl, rfl, fun ι => vr_int rfl⟩
      · rw [show (t == []) = false by rw [beq_eq_false_iff_ne]; exact ht]
        exact ⟨_, rfl, rfl, fun ι => vr_int (by simp [ht])⟩
  · have e0 : (k == 0) = false := by rw [beq_eq_false_iff_ne]; exact h0
    have e1 : (k == 1) = false := by rw [beq_eq_false_iff_ne]; exact h1
    have e2 : (k == 2) = false := by rw [beq_eq_false_iff_ne]; exact h2
    have e3 : (k == 3) = false := by rw [beq_eq_false_iff_ne]; exact h3
    rw [e0, e1, e2, e3, if_neg h0, if_neg h1, if_neg h2, if_neg h3]
    exact ⟨_, rfl, rfl, fun ι => vr_int rfl⟩

theorem run51 (a b : Int) : ∃ v', (runK prog pS 60).call 51 [.sint .i64 a, .sint .i64 b] (Bg 8) finV = some v' ∧ below 0 v' = true ∧ ∀ ι x, VR ι v' x → VR ι (.sbool (apartB a b)) x := by
  have h : (runK prog pS 60).call 51 [.sint .i64 a, .sint .i64 b] (Bg 8) finV = brK (b == 1) (brK (a == 0) (some (.bool true)) (brK (a == 1) (some (.bool true)) (brK (a == 0) (some (.sbool (b == 0))) (some (.bool false)))))
      (brK (a == 0) (some (.sbool (b == 0))) (some (.bool false))) := by kernel_rfl
  rw [h]
  unfold apartB
  cases hb : b == 1 with
  | true => cases ha : a == 0 with
    | true => exact ⟨_, rfl, rfl, fun ι => vr_bool (by simp)⟩
    | false => cases ha1 : a == 1 with
      | true => exact ⟨_, rfl, rfl, fun ι => vr_bool (by simp)⟩
      | false => exact ⟨_, rfl, rfl, fun ι => vr_bool (by simp)⟩
  | false => cases ha : a == 0 with
    | true => exact ⟨_, rfl, rfl, fun ι => vr_sbool (by simp)⟩
    | false => exact ⟨_, rfl, rfl, fun ι => vr_bool (by simp)⟩

def gForm : List AV → Tr AV
  | [.agg [k, t, _], l] => match snum k, sstr? t, sbool? l with
    | some (.i64, k), some t, some l => .br (szOK t) (.leaf (.sint .i64 (formE k t l))) .fail
    | _, _, _ => .fail
  | _ => .fail
noncomputable def pF : Prims := ((pS.addt 50 gForm).addt 56 gForm).addt 51 (gP [.int .i64, .int .i64] fun | [.i a, .i b] => .leaf (.sbool (apartB a b)) | _ => .fail)

theorem pF_ok {A : Amb} (hT : Tab A) (hG : prog.globals.size ≤ A.G) : PrimOK prog A pF := by
  have h0 := pS_ok hT hG
  have key : ∀ f : FuncId, (∀ k t l, szOK t = true → ∃ v', (runK prog pS 60).call f [.agg [.sint .i64 k, .sstr t, .bad], .sbool l] (Bg 8) finV = some v' ∧ below 0 v' = true ∧ ∀ ι x, VR ι v' x → VR ι (.sint .i64 (formE k t l)) x) →
      ∀ args v, (gForm args).get = some v → ∃ prims0 args' v' B', PrimOK prog A prims0 ∧ (∀ (ι : Emb) (xs : List Value), VRL ι args xs → VRL ι args' xs) ∧ (∀ (ι : Emb) (x : Value), VR ι v' x → VR ι v x) ∧ belowL 0 args' = true ∧ below 0 v' = true ∧
        Ca prog prims0 f args' (Bg prog.globals.size) (v', B', []) := by
    intro f hr args v h
    unfold gForm at h
    split at h
    · rename_i k0 t0 a0 l0
      split at h
      · rename_i k t l hk ht hl
        obtain ⟨hs, hv⟩ := Tr.br1 h
        cases hv
        obtain ⟨v', q1, q2, q3⟩ := hr k t l hs
        rw [← gsz] at q1
        obtain ⟨B', hca⟩ := Ca.of_finV q1
        refine ⟨pS, _, v', B', h0, fun ι xs hx => ?_, fun ι x => q3 ι x, rfl, q2, hca⟩
        simp only [VRL, VR] at hx ⊢
        obtain ⟨x, xs1, rfl, ⟨ys, rfl, y0, r0, e0, w0, y1, r1, e1, w1, y2, r2, e2, w2, w3⟩, z, zs, rfl, hz, rfl⟩ := hx
        exact ⟨_, _, rfl, ⟨ys, rfl, y0, r0, e0, snum_VR hk w0, y1, r1, e1, sstr_VR ht w1, y2, r2, e2, trivial, w3⟩, z, _, rfl, sbool_VR hl hz, rfl⟩
      · cases h
    · cases h
  refine PrimOK.addP hmix hnum h0 (PrimOK.addt3 hmix hnum (PrimOK.addt3 hmix hnum h0 hG func50 (by kernel_rfl) (key 50 run50)) hG func56 (by kernel_rfl) (key 56 run56)) hG func51 (by kernel_rfl) fun ls v h => ?_
  split at h
  · rename_i a b
    cases h
    obtain ⟨v', q1, q2, q3⟩ := run51 a b
    exact ⟨rfl, 60, v', by rw [gsz]; exact q1, q2, q3⟩
  · cases h
end Go.Proofs.Tryz
