/- The lexer's program: what is wrong with a token, and where a blank stands between two. -/
import Derived.Test.YtfjgehlpjppggaaGreatDoorScanT

namespace Go.Proofs.Tryz
open Go.Ad

def formE (k : Int) (t : List UInt8) (l : Bool) : Int :=
  if k = 0 then errW t else if k = 1 then errN t else if k = 2 then (if t.length = 1 ∧ markB (bAt t 0) = true then 0 else 3) else if k = 3 then (if l = true then (if t = [] then 0 else 3) else 9) else 1
def apartB (a b : Int) : Bool := (b == 1 && (a == 0 || a == 1)) || (a == 0 && b == 0)

theorem run50 (k : Int) (t : List UInt8) (l : Bool) (hs : szOK t = true) : ∃ v', (runK prog pS 60).call 50 [.agg [.sint .i64 k, .sstr t, .bad], .sbool l] (Bg 8) finV = some v' ∧ below 0 v' = true ∧ ∀ ι x, VR ι v' x → VR ι (.sint .i64 (formE k t l)) x := by
  have h : (runK prog pS 60).call 50 [.agg [.sint .i64 k, .sstr t, .bad], .sbool l] (Bg 8) finV = brK (k == 0) (brK (szOK t) (some (.sint .i64 (errW t))) none) (brK (k == 1) (brK (szOK t) (some (.sint .i64 (errN t))) none)
      (brK (k == 2) (brK ((t.length : Int) == 1) (brK (decide ((0 : Int) ≤ 0 ∧ (0 : Int) < (t.length : Int))) (brK (!clsI (bAt t 0) == 4) (some (.int .i64 3)) (some (.int .i64 0))) none) (some (.int .i64 3)))
      (brK (k == 3) (brK (!l) (some (.int .i64 9)) (brK (!t == []) (some (.int .i64 3)) (some (.int .i64 0)))) (some (.int .i64 1))))) := by kernel_rfl
  rw [h, hs]
  unfold formE
  obtain ⟨b0, b1⟩ := bAt_range t 0
  by_cases h0 : k = 0
  · subst h0; exact ⟨_, rfl, rfl, fun ι x h => h⟩
  by_cases h1 : k = 1
  · subst h1; exact ⟨_, rfl, rfl, fun ι x h => h⟩
  by_cases h2 : k = 2
  · subst h2
    by_cases hl : t.length = 1
    · rw [show ((t.length : Int) == 1) = true by rw [hl]; rfl, decide_eq_true (show (0 : Int) ≤ 0 ∧ (0 : Int) < (t.length : Int) by omega), cls4 b0 b1]
      cases hm : markB (bAt t 0) with
      | true => exact ⟨_, rfl, rfl, fun ι => vr_int (by simp [hl])⟩
      | false => exact ⟨_, rfl, rfl, fun ι => vr_int (by simp)⟩
    · rw [show ((t.length : Int) == 1) = false by rw [beq_eq_false_iff_ne]; omega]
      exact ⟨_, rfl, rfl, fun ι => vr_int (by simp [hl])⟩
  by_cases h3 : k = 3
  · subst h3
    cases l with
    | false => exact ⟨_, rfl, rfl, fun ι => vr_int rfl⟩
    | true =>
      by_cases ht : t = []
      · subst ht; exact ⟨_, rfl, rfl, fun ι => vr_int rfl⟩
      · rw [show (t == []) = false by rw [beq_eq_false_iff_ne]; exact ht]
        exact ⟨_, rfl, rfl, fun ι => vr_int (by simp [ht])⟩
  · have e0 : (k == 0) = false := by rw [beq_eq_false_iff_ne]; exact h0
    have e1 : (k == 1) = false := by rw [beq_eq_false_iff_ne]; exact h1
    have e2 : (k == 2) = false := by rw [beq_eq_false_iff_ne]; exact h2
    have e3 : (k == 3) = false := by rw [beq_eq_false_iff_ne]; exact h3
    rw [e0, e1, e2, e3, if_neg h0, if_neg h1, if_neg h2, if_neg h3]
    exact ⟨_, rfl, rfl, fun ι => vr_int rfl⟩

theorem run56 (k : Int) (t : List UInt8) (l : Bool) (hs : szOK t = true) : ∃ v', (runK prog pS 60).call 56 [.agg [.sint .i64 k, .sstr t, .bad], .sbool l] (Bg 8) finV = some v' ∧ below 0 v' = true ∧ ∀ ι x, VR ι v' x → VR ι (.sint .i64 (formE k t l)) x := by
  have h : (runK prog pS 60).call 56 [.agg [.sint .i64 k, .sstr t, .bad], .sbool l] (Bg 8) finV = brK (k == 0) (brK (szOK t) (some (.sint .i64 (errW t))) none) (brK (k == 1) (brK (szOK t) (some (.sint .i64 (errN t))) none)
      (brK (k == 2) (brK ((t.length : Int) != 1) (some (.int .i64 3)) (brK (decide ((0 : Int) ≤ 0 ∧ (0 : Int) < (t.length : Int))) (brK (!markB (bAt t 0)) (some (.int .i64 3)) (some (.int .i64 0))) none))
      (brK (k == 3) (brK (!l) (some (.int .i64 9)) (brK (!t == []) (some (.int .i64 3)) (some (.int .i64 0)))) (some (.int .i64 1))))) := by kernel_rfl
  rw [h, hs]
  unfold formE
  by_cases h0 : k = 0
  · subst h0; exact ⟨_, rfl, rfl, fun ι x h => h⟩
  by_cases h1 : k = 1
  · subst h1; exact ⟨_, rfl, rfl, fun ι x h => h⟩
  by_cases h2 : k = 2
  · subst h2
    by_cases hl : t.length = 1
    · rw [show ((t.length : Int) != 1) = false by rw [hl]; rfl, decide_eq_true (show (0 : Int) ≤ 0 ∧ (0 : Int) < (t.length : Int) by omega)]
      cases hm : markB (bAt t 0) with
      | true => exact ⟨_, rfl, rfl, fun ι => vr_int (by simp [hl])⟩
      | false => exact ⟨_, rfl, rfl, fun ι => vr_int (by simp)⟩
    · rw [show ((t.length : Int) != 1) = true by rw [bne_iff_ne]; omega]
      exact ⟨_, rfl, rfl, fun ι => vr_int (by simp [hl])⟩
  by_cases h3 : k = 3
  · subst h3
    cases l with
    | false => exact ⟨_, rfl, rfl, fun ι => vr_int rfl⟩
    | true =>
      by_cases ht : t = []
      · subst ht; exact ⟨_, rfl, rfl, fun ι => vr_int rfl⟩
      · rw [show (t == []) = false by rw [beq_eq_false_iff_ne]; exact ht]
        exact ⟨_, rfl, rfl, fun ι => vr_int (by simp [ht])⟩
  · have e0 : (k == 0) = false := by rw [beq_eq_false_iff_ne]; exact h0
    have e1 : (k == 1) = false := by rw [beq_eq_false_iff_ne]; exact h1
    have e2 : (k == 2) = false := by rw [beq_eq_false_iff_ne]; exact h2
    have e3 : (k == 3) = false := by rw [beq_eq_false_iff_ne]; exact h3
    rw [e0, e1, e2, e3, if_neg h0, if_neg h1, if_neg h2, if_neg h3]
    exact ⟨_, rfl, rfl, fun ι => vr_int rfl⟩

theorem run51 (a b : Int) : ∃ v', (runK prog pS 60).call 51 [.sint .i64 a, .sint .i64 b] (Bg 8) finV = some v' ∧ below 0 v' = true ∧ ∀ ι x, VR ι v' x → VR ι (.sbool (apartB a b)) x := by
  have h : (runK prog pS 60).call 51 [.sint .i64 a, .sint .i64 b] (Bg 8) finV = brK (b == 1) (brK (a == 0) (some (.bool true)) (brK (a == 1) (some (.bool true)) (brK (a == 0) (some (.sbool (b == 0))) (some (.bool false)))))
      (brK (a == 0) (some (.sbool (b == 0))) (some (.bool false))) := by kernel_rfl
  rw [h]
  unfold apartB
  cases hb : b == 1 with
  | true => cases ha : a == 0 with
    | true => exact ⟨_, rfl, rfl, fun ι => vr_bool (by simp)⟩
    | false => cases ha1 : a == 1 with
      | true => exact ⟨_, rfl, rfl, fun ι => vr_bool (by simp)⟩
      | false => exact ⟨_, rfl, rfl, fun ι => vr_bool (by simp)⟩
  | false => cases ha : a == 0 with
    | true => exact ⟨_, rfl, rfl, fun ι => vr_sbool (by simp)⟩
    | false => exact ⟨_, rfl, rfl, fun ι => vr_bool (by simp)⟩

def gForm : List AV → Tr AV
  | [.agg [k, t, _], l] => match snum k, sstr? t, sbool? l with
    | some (.i64, k), some t, some l => .br (szOK t) (.leaf (.sint .i64 (formE k t l))) .fail
    | _, _, _ => .fail
  | _ => .fail
noncomputable def pF : Prims := ((pS.addt 50 gForm).addt 56 gForm).addt 51 (gP [.int .i64, .int .i64] fun | [.i a, .i b] => .leaf (.sbool (apartB a b)) | _ => .fail)

theorem pF_ok {A : Amb} (hT : Tab A) (hG : prog.globals.size ≤ A.G) : PrimOK prog A pF := by
  have h0 := pS_ok hT hG
  have key : ∀ f : FuncId, (∀ k t l, szOK t = true → ∃ v', (runK prog pS 60).call f [.agg [.sint .i64 k, .sstr t, .bad], .sbool l] (Bg 8) finV = some v' ∧ below 0 v' = true ∧ ∀ ι x, VR ι v' x → VR ι (.sint .i64 (formE k t l)) x) →
      ∀ args v, (gForm args).get = some v → ∃ prims0 args' v' B', PrimOK prog A prims0 ∧ (∀ (ι : Emb) (xs : List Value), VRL ι args xs → VRL ι args' xs) ∧ (∀ (ι : Emb) (x : Value), VR ι v' x → VR ι v x) ∧ belowL 0 args' = true ∧ below 0 v' = true ∧
        Ca prog prims0 f args' (Bg prog.globals.size) (v', B', []) := by
    intro f hr args v h
    unfold gForm at h
    split at h
    · rename_i k0 t0 a0 l0
      split at h
      · rename_i k t l hk ht hl
        obtain ⟨hs, hv⟩ := Tr.br1 h
        cases hv
        obtain ⟨v', q1, q2, q3⟩ := hr k t l hs
        rw [← gsz] at q1
        obtain ⟨B', hca⟩ := Ca.of_finV q1
        refine ⟨pS, _, v', B', h0, fun ι xs hx => ?_, fun ι x => q3 ι x, rfl, q2, hca⟩
        simp only [VRL, VR] at hx ⊢
        obtain ⟨x, xs1, rfl, ⟨ys, rfl, y0, r0, e0, w0, y1, r1, e1, w1, y2, r2, e2, w2, w3⟩, z, zs, rfl, hz, rfl⟩ := hx
        exact ⟨_, _, rfl, ⟨ys, rfl, y0, r0, e0, snum_VR hk w0, y1, r1, e1, sstr_VR ht w1, y2, r2, e2, trivial, w3⟩, z, _, rfl, sbool_VR hl hz, rfl⟩
      · cases h
    · cases h
  refine PrimOK.addP hmix hnum h0 (PrimOK.addt3 hmix hnum (PrimOK.addt3 hmix hnum h0 hG func50 (by kernel_rfl) (key 50 run50)) hG func56 (by kernel_rfl) (key 56 run56)) hG func51 (by kernel_rfl) fun ls v h => ?_
  split at h
  · rename_i a b
    cases h
    obtain ⟨v', q1, q2, q3⟩ := run51 a b
    exact ⟨rfl, 60, v', by rw [gsz]; exact q1, q2, q3⟩
  · cases h
end Go.Proofs.Tryz

/- The lexer's program: tokens joined, by the program. -/
namespace Go.Proofs.Tryz
open Go.Ad

def bPtr : Option (Nat × Nat) → AV := .ptr
def sp24 (ad : AV) : SP := ⟨[.list 8, .drop, .drop, .drop, .is (.ptr (some (9, 0)))] ++ dr 6 ++ [.list 8, .int .i64, .int .i64] ++ dr 35, dd8 ++ [.vecT 3, .cells [.is ad, .list 10] 0 true 79, .text 5]⟩
def sp24e : SP := ⟨[.drop, .drop, .drop, .drop, .is (.ptr (some (9, 0)))] ++ dr 44, dd8 ++ [.vecT 3, .cells [.drop, .list 10] 0 true 79, .text 5]⟩
def sp24r : SP := ⟨[.drop, .drop, .str, .int .i64] ++ dr 45, dd8 ++ [.vecT 3, .any, .text 5]⟩
def ad1 : AV := .ptr (some (9, 0))
def spx24 (_ : AV) : AEx → SP
  | .ret => sp24r
  | .normal => sp24 ad1
  | .exit _ => sp24e
def lf24 (ty : Nat) (n : Nat) (i : Int) (r : Nat → List AV) (k : Nat) (s : List UInt8) : List Lf := [.n n, .n n, .i n, .i i, .n n, .r r, .n ty, .n k, .s s]
noncomputable def code24 : Code := f24.body.getD .skip
noncomputable def body24 : Code := unLoop (findB 0 code24)

def treeJ (ty : Nat) (ad : AV) (n : Nat) (i : Int) (t p : Tok) (r : Nat → List AV) (k : Nat) (s : List UInt8) : Option (AEx × List Lf) :=
  brK (decide (i < (n : Int))) (brK (decide (0 ≤ i ∧ i < (n : Int))) (brK (decide (0 + i.toNat < n)) (brK (szOK t.2.1) (brK (formE t.1 t.2.1 (i == W ((n : Int) - 1)) != 0)
    (some (.ret, [.s [], .i (formE t.1 t.2.1 (i == W ((n : Int) - 1))), .n n, .r r, .n ty, .o (.cells [ad, .sslice 10 0 k] 0 true 79), .s s]))
    (brK (decide (i > 0)) (brK (decide (0 ≤ W (i - 1) ∧ W (i - 1) < (n : Int))) (brK (decide (0 + (W (i - 1)).toNat < n)) (brK (apartB p.1 t.1)
        (brK (decide ((0 : Int) ≤ 32 ∧ (32 : Int) < 256) && decide (k = s.length ∧ k + 1 < 2147483648)) (brK (true && decide (k + 1 = (s ++ [Nat.toUInt8 32]).length ∧ k + 1 + t.2.1.length < 2147483648))
          (some (.normal, lf24 ty n (W (i + 1)) r (k + 1 + t.2.1.length) (s ++ [Nat.toUInt8 32] ++ t.2.1))) none) none)
        (brK (true && decide (k = s.length ∧ k + t.2.1.length < 2147483648)) (some (.normal, lf24 ty n (W (i + 1)) r (k + t.2.1.length) (s ++ t.2.1))) none)) none) none)
      (brK (true && decide (k = s.length ∧ k + t.2.1.length < 2147483648)) (some (.normal, lf24 ty n (W (i + 1)) r (k + t.2.1.length) (s ++ t.2.1))) none))) none) none) none)
    (some (.exit 0, [.n n, .r r, .n ty, .n k, .s s]))

theorem round24a (ty : Nat) (n : Nat) (i : Int) (r : Nat → Tok) (k : Nat) (s : List UInt8) : execK prog (runK prog pF 60) noBps body24 ((sp24 (.ptr none)).rho (lf24 ty n i (fun i => rowT (r i)) k s)) ((sp24 (.ptr none)).heap (lf24 ty n i (fun i => rowT (r i)) k s)) (nrmP (spx24 (.ptr none)) 10 [9, 10]) =
    treeJ ty (.ptr none) n i (r (0 + i.toNat)) (r (0 + (W (i - 1)).toNat)) (fun i => rowT (r i)) k s := by kernel_rfl
theorem round24b (ty : Nat) (n : Nat) (i : Int) (r : Nat → Tok) (k : Nat) (s : List UInt8) : execK prog (runK prog pF 60) noBps body24 ((sp24 ad1).rho (lf24 ty n i (fun i => rowT (r i)) k s)) ((sp24 ad1).heap (lf24 ty n i (fun i => rowT (r i)) k s)) (nrmP (spx24 ad1) 10 [9, 10]) =
    treeJ ty ad1 n i (r (0 + i.toNat)) (r (0 + (W (i - 1)).toNat)) (fun i => rowT (r i)) k s := by kernel_rfl

/-- A blank, where one stands between two tokens. -/
def sepJ (b : Option Int) (k : Int) : List UInt8 := match b with | some a => bif apartB a k then [32] else [] | none => []
/-- The joined text, or the error of the first token that is not right. -/
def joinL : Option Int → List Tok → List UInt8 → List UInt8 ⊕ Int
  | _, [], s => .inl s
  | b, t :: r, s => bif formE t.1 t.2.1 r.isEmpty != 0 then .inr (formE t.1 t.2.1 r.isEmpty) else joinL (some t.1) r (s ++ sepJ b t.1 ++ t.2.1)

theorem form_len {k : Int} {t : List UInt8} {l : Bool} (h : formE k t l = 0) : t.length ≤ 24 := by
  unfold formE errW errN at h
  repeat' split at h
  all_goals first | omega | (simp_all; done) | skip
  all_goals simp_all

section
variable {n i k : Nat} {ty : Nat} {t p : Tok} {r : Nat → List AV} {s : List UInt8} {ad : AV}

theorem treeJ_end : treeJ ty ad n n t p r k s = some (.exit 0, [.n n, .r r, .n ty, .n k, .s s]) := by
  unfold treeJ; rw [decide_eq_false (show ¬ (n : Int) < n by omega)]; rfl

theorem treeJ_err (hi : i < n) (hn : n ≤ 5000) (hz : szOK t.2.1 = true) (he : (formE t.1 t.2.1 (decide (i = n - 1)) != 0) = true) :
    treeJ ty ad n i t p r k s = some (.ret, [.s [], .i (formE t.1 t.2.1 (decide (i = n - 1))), .n n, .r r, .n ty, .o (.cells [ad, .sslice 10 0 k] 0 true 79), .s s]) := by
  unfold treeJ
  have e1 : W ((n : Int) - 1) = ((n - 1 : Nat) : Int) := by rw [W, wrap64 (by omega) (by omega)]; omega
  have e4 : ((i : Int) == ((n - 1 : Nat) : Int)) = decide (i = n - 1) := by
    by_cases e : i = n - 1
    · rw [decide_eq_true e, beq_iff_eq]; omega
    · rw [decide_eq_false e, beq_eq_false_iff_ne]; omega
  rw [e1, e4, he, hz, Int.toNat_natCast, decide_eq_true (show (i : Int) < n by omega), decide_eq_true (show 0 ≤ (i : Int) ∧ (i : Int) < n by omega), decide_eq_true (show 0 + i < n by omega)]; rfl

theorem treeJ_next (hi : i < n) (hn : n ≤ 5000) (hz : szOK t.2.1 = true) (he : (formE t.1 t.2.1 (decide (i = n - 1)) != 0) = false) (hk : k = s.length) (hs : s.length ≤ 25 * i) :
    treeJ ty ad n i t p r k s = some (.normal, lf24 ty n ((i + 1 : Nat) : Int) r (s ++ sepJ (bif decide (0 < i) then some p.1 else none) t.1 ++ t.2.1).length (s ++ sepJ (bif decide (0 < i) then some p.1 else none) t.1 ++ t.2.1)) := by
  subst hk
  have hl := form_len (by simpa using he : formE t.1 t.2.1 (decide (i = n - 1)) = 0)
  unfold treeJ
  have e1 : W ((n : Int) - 1) = ((n - 1 : Nat) : Int) := by rw [W, wrap64 (by omega) (by omega)]; omega
  have e2 : W ((i : Int) + 1) = ((i + 1 : Nat) : Int) := by rw [W, wrap64 (by omega) (by omega)]; omega
  have e4 : ((i : Int) == ((n - 1 : Nat) : Int)) = decide (i = n - 1) := by
    by_cases e : i = n - 1
    · rw [decide_eq_true e, beq_iff_eq]; omega
    · rw [decide_eq_false e, beq_eq_false_iff_ne]; omega
  rw [e1, e2, e4, he, hz, Int.toNat_natCast, decide_eq_true (show (i : Int) < n by omega), decide_eq_true (show 0 ≤ (i : Int) ∧ (i : Int) < n by omega), decide_eq_true (show 0 + i < n by omega),
    decide_eq_true (show s.length = s.length ∧ s.length + t.2.1.length < 2147483648 by omega)]
  by_cases h0 : 0 < i
  · have e3 : W ((i : Int) - 1) = ((i - 1 : Nat) : Int) := by rw [W, wrap64 (by omega) (by omega)]; omega
    rw [decide_eq_true (show (i : Int) > 0 by omega), e3, Int.toNat_natCast, decide_eq_true (show 0 ≤ ((i - 1 : Nat) : Int) ∧ ((i - 1 : Nat) : Int) < n by omega), decide_eq_true (show 0 + (i - 1) < n by omega), decide_eq_true h0]
    show _ = some (AEx.normal, lf24 ty n ((i + 1 : Nat) : Int) r (s ++ (bif apartB p.1 t.1 then [32] else []) ++ t.2.1).length (s ++ (bif apartB p.1 t.1 then [32] else []) ++ t.2.1))
    cases apartB p.1 t.1 with
    | false => simp [brK]
    | true =>
      rw [decide_eq_true (show s.length = s.length ∧ s.length + 1 < 2147483648 by omega), decide_eq_true (show s.length + 1 = (s ++ [Nat.toUInt8 32]).length ∧ s.length + 1 + t.2.1.length < 2147483648 from ⟨by simp, by omega⟩)]
      have e5 : (s ++ [Nat.toUInt8 32] ++ t.2.1).length = s.length + 1 + t.2.1.length := by simp; omega
      have e6 : Nat.toUInt8 32 = 32 := rfl
      rw [← e5]
      simp [brK, e6]
  · rw [decide_eq_false (show ¬ (i : Int) > 0 by omega), decide_eq_false h0]
    show _ = some (AEx.normal, lf24 ty n ((i + 1 : Nat) : Int) r (s ++ [] ++ t.2.1).length (s ++ [] ++ t.2.1))
    simp [brK]
end
end Go.Proofs.Tryz

/- The lexer's program: tokens joined: the program's loop. -/
namespace Go.Proofs.Tryz
open Go.Ad

def adI : Nat → AV
  | 0 => .ptr none
  | _ + 1 => ad1
def sp24d : SP := ⟨[.drop, .drop, .str, .int .i64] ++ dr 45, dd8 ++ [.vecT 3, .dead, .dead]⟩
def stJ (ty : Nat) (L : List Tok) (x : Nat × List UInt8) : St := ⟨(sp24 (adI x.1)).rho (lf24 ty L.length x.1 (rowsT L) x.2.length x.2), (sp24 (adI x.1)).heap (lf24 ty L.length x.1 (rowsT L) x.2.length x.2), [9, 10]⟩
def lfE (ty : Nat) (L : List Tok) (s : List UInt8) : List Lf := [.n L.length, .r (rowsT L), .n ty, .n s.length, .s s]
def lfD (ty : Nat) (L : List Tok) (e : Int) : List Lf := [.s [], .i e, .n L.length, .r (rowsT L), .n ty]
def outJ (ty : Nat) (L : List Tok) : List UInt8 ⊕ Int → AEx × St
  | .inl s => (.exit 0, ⟨sp24e.rho (lfE ty L s), sp24e.heap (lfE ty L s), [9, 10]⟩)
  | .inr e => (.ret, ⟨sp24d.rho (lfD ty L e), sp24d.heap (lfD ty L e), [9, 10]⟩)
def befJ (L : List Tok) (i : Nat) : Option Int := bif decide (0 < i) then some (L.getD (i - 1) tok0).1 else none

theorem round24 (ty : Nat) (i : Nat) (n : Nat) (r : Nat → Tok) (k : Nat) (s : List UInt8) : execK prog (runK prog pF 60) noBps body24 ((sp24 (adI i)).rho (lf24 ty n i (fun i => rowT (r i)) k s)) ((sp24 (adI i)).heap (lf24 ty n i (fun i => rowT (r i)) k s)) (nrmP (spx24 (adI i)) 10 [9, 10]) =
    treeJ ty (adI i) n i (r (0 + (i : Int).toNat)) (r (0 + (W ((i : Int) - 1)).toNat)) (fun i => rowT (r i)) k s := by
  cases i with
  | zero => exact round24a ty n _ r k s
  | succ i => exact round24b ty n _ r k s

theorem loop24 {A : Amb} (hT : Tab A) (hG : prog.globals.size ≤ A.G) (ty : Nat) (L : List Tok) (hL : L.length ≤ 4097) (hz : ∀ t, t ∈ L → szOK t.2.1 = true) {Bb : Heap} (hB : Bb.length = 10) :
    SEB prog A Bb (.loop body24) (stJ ty L (0, [])) (outJ ty L (joinL none L [])).1 (outJ ty L (joinL none L [])).2 := by
  have hp := pF_ok hT hG
  have hok : ∀ i e, okD 10 [9, 10] 0 (spx24 (adI i) e).h = true := fun i e => by cases i <;> cases e <;> rfl
  refine SEB.while (fun x : Nat × List UInt8 => x.1 ≤ L.length ∧ x.2.length ≤ 25 * x.1 ∧ joinL (befJ L x.1) (L.drop x.1) x.2 = joinL none L []) (fun x => L.length - x.1) (stJ ty L) (fun _ => outJ ty L (joinL none L [])) (fun x hx => ?_) (0, []) ⟨Nat.zero_le _, by simp, by simp [befJ]⟩
  obtain ⟨i, s⟩ := x
  obtain ⟨h1, h2, h3⟩ := hx
  simp only at h1 h2 h3 ⊢
  have hk := round24 ty i L.length (fun i => L.getD i tok0) s.length s
  rw [Int.toNat_natCast, Nat.zero_add] at hk
  by_cases hi : i < L.length
  · obtain ⟨t, M, hd⟩ : ∃ t M, L.drop i = t :: M := ⟨L[i], L.drop (i + 1), List.drop_eq_getElem_cons hi⟩
    have ht : L.getD i tok0 = t := by
      have : L[i]? = some t := by
        have h0 : (L.drop i)[0]? = some t := by rw [hd]; rfl
        rwa [List.getElem?_drop, Nat.add_zero] at h0
      rw [List.getD_eq_getElem?_getD, this]; rfl
    have hM : L.drop (i + 1) = M := by
      have : (L.drop i).drop 1 = M := by rw [hd]; rfl
      rwa [List.drop_drop] at this
    have htm : t ∈ L := by
      have : t ∈ L.drop i := by rw [hd]; exact List.mem_cons_self ..
      exact List.mem_of_mem_drop this
    have hlast : M.isEmpty = decide (i = L.length - 1) := by
      have hl : M.length = L.length - (i + 1) := by rw [← hM, List.length_drop]
      cases M with
      | nil => simp at hl; simp; omega
      | cons a b => simp at hl; simp; omega
    rw [ht] at hk
    rw [hd] at h3
    simp only [joinL, hlast] at h3
    cases he : formE t.1 t.2.1 (decide (i = L.length - 1)) != 0 with
    | true =>
      right
      rw [treeJ_err hi (by omega) (hz t htm) he] at hk
      rw [he, cond_true] at h3
      rw [← h3]
      refine ⟨by simp [outJ], ?_⟩
      have h4 := SEB.of_KP (e := .ret) (sp := spx24 (adI i)) hmix hnum hp (.none _) hB hk (hok i .ret)
      refine h4.wk_out (Wk.trans (Wk.obj (b := 9) (o := .cells [adI i, .sslice 10 0 s.length] 0 true 79) (o' := .dead) rfl (fun _ => by simp) (fun h => by cases h) (fun h => by cases h) fun _ _ _ _ => trivial) ?_)
      exact Wk.obj (b := 10) (o := .text s 5) (o' := .dead) rfl (fun h => by rw [hB] at h; omega) (fun h => by cases h) (fun h => by cases h) fun _ _ _ _ => trivial
    | false =>
      left
      have hn := treeJ_next (ad := adI i) (p := L.getD (0 + (W ((i : Int) - 1)).toNat) tok0) (r := fun i => rowT (L.getD i tok0)) (ty := ty) hi (by omega) (hz t htm) he rfl h2
      rw [hn] at hk
      rw [he, cond_false] at h3
      have hb : (bif decide (0 < i) then some (L.getD (0 + (W ((i : Int) - 1)).toNat) tok0).1 else none) = befJ L i := by
        unfold befJ
        by_cases h0 : 0 < i
        · have e3 : W ((i : Int) - 1) = ((i - 1 : Nat) : Int) := by rw [W, wrap64 (by omega) (by omega)]; omega
          rw [e3, Int.toNat_natCast, Nat.zero_add]
        · rw [decide_eq_false h0]; rfl
      rw [hb] at hk
      have hl := form_len (by simpa using he : formE t.1 t.2.1 (decide (i = L.length - 1)) = 0)
      have hsep : (sepJ (befJ L i) t.1).length ≤ 1 := by
        unfold sepJ
        split
        · cases apartB _ t.1 <;> simp
        · simp
      refine ⟨(i + 1, s ++ sepJ (befJ L i) t.1 ++ t.2.1), ⟨by simp only; omega, by simp only [List.length_append]; omega, ?_⟩, by simp only; omega, trivial, SEB.of_KP (e := .normal) (sp := spx24 (adI i)) hmix hnum hp (.none _) hB hk (hok i .normal)⟩
      simp only
      rw [hM, ← h3]
      have : befJ L (i + 1) = some t.1 := by
        unfold befJ
        rw [decide_eq_true (Nat.succ_pos i), Nat.add_sub_cancel, ht]; rfl
      rw [this]
  · right
    have e : i = L.length := by omega
    subst e
    rw [treeJ_end] at hk
    rw [List.drop_length] at h3
    simp only [joinL] at h3
    rw [← h3]
    exact ⟨by simp [outJ], SEB.of_KP (e := .exit 0) (sp := spx24 (adI L.length)) hmix hnum hp (.none _) hB hk (hok _ _)⟩

/-! The contract. -/
def tokOf : List AV → Tok
  | [a, b, c] => (((snum a).getD (.i64, 0)).2, (sstr? b).getD [], ((snum c).getD (.i64, 0)).2)
  | _ => tok0
def toksOf (n : Nat) (f : Nat → List AV) : List Tok := (List.range n).map fun i => tokOf (f i)
theorem toksOf_rows (L : List Tok) : toksOf L.length (rowsT L) = L := by
  unfold toksOf
  apply List.ext_getElem?
  intro i
  rw [List.getElem?_map]
  by_cases h : i < L.length
  · rw [List.getElem?_range h, Option.map_some, List.getElem?_eq_getElem h]
    simp only [rowsL, rowT, tokOf, snum, sstr?, Option.getD_some]
    rw [List.getD_eq_getElem?_getD, List.getElem?_eq_getElem h]; rfl
  · rw [List.getElem?_eq_none (by simp; omega), List.getElem?_eq_none (by omega)]; rfl

/-- A list of tokens as a block of rows. -/
def isToks (n : Nat) (f : Nat → List AV) : Prop := f = rowsT (toksOf n f) ∧ ∀ t, t ∈ toksOf n f → szOK t.2.1 = true
theorem isToks_rows {L : List Tok} (h : ∀ t, t ∈ L → szOK t.2.1 = true) : isToks L.length (rowsT L) := by
  unfold isToks; rw [toksOf_rows]; exact ⟨rfl, h⟩

def jnB (L : List Tok) : Bool := match joinL none L [] with | .inl _ => true | .inr _ => false
def jnS (L : List Tok) : List UInt8 := match joinL none L [] with | .inl s => s | .inr _ => []
def jnE (L : List Tok) : Int := match joinL none L [] with | .inl _ => 0 | .inr e => e

noncomputable def hook24 : Blk := hookP (sp24 (.ptr none)) 10 [9, 10] fun
  | [.n n, .n n', .i m, .i i, .n n'', .r f, .n ty, .n k, .s s] => .br (propB (n' = n ∧ m = n ∧ i = 0 ∧ n'' = n ∧ k = 0 ∧ s = [] ∧ isToks n f ∧ n ≤ 4097)) (.br (jnB (toksOf n f)) (.leaf (.normal, sp24e, [.n n, .r f, .n ty, .n (jnS (toksOf n f)).length, .s (jnS (toksOf n f))])) (.leaf (.ret, sp24d, [.s [], .i (jnE (toksOf n f)), .n n, .r f, .n ty]))) .fail
  | _ => .fail
noncomputable def pJ24 : Prims := pF.addb 24 0 hook24

theorem pJ24_ok {A : Amb} (hT : Tab A) (hG : prog.globals.size ≤ A.G) : PrimOK prog A pJ24 := by
  refine (pF_ok hT hG).addb func24 (show f24.body = some code24 by kernel_rfl) (body := .loop body24) (by kernel_rfl) (hookP_ok (by rfl) fun ls e sq l h => ?_)
  split at h
  · rename_i n n' m i n'' f ty k s
    obtain ⟨hc, hv⟩ := Tr.br1 h
    clear h
    obtain ⟨h1, h2, h3, h4, h5, h6, ⟨h7, h8⟩, h9⟩ := propB_eq hc
    obtain ⟨L, hL⟩ : ∃ L, L = toksOf n f := ⟨_, rfl⟩
    have hn : n = L.length := by rw [hL]; simp [toksOf]
    rw [← hL] at h7 h8 hv
    subst h1 h2 h3 h4 h5 h6
    subst hn h7
    have key := fun (Bb : Heap) (hB : Bb.length = 10) => loop24 hT hG ty L h9 h8 hB
    cases hj : joinL none L [] with
    | inl s' =>
      have e1 : jnB L = true := by simp [jnB, hj]
      have e2 : jnS L = s' := by simp [jnS, hj]
      rw [e1] at hv
      simp only [Tr.get, Option.some.injEq, Prod.mk.injEq] at hv
      obtain ⟨rfl, rfl, rfl⟩ := hv
      refine ⟨⟨.inr rfl, .inr rfl, .inr rfl, .inr rfl, .inr rfl, .inr rfl, .inr rfl, .inr rfl, .inr rfl, .inl rfl, .inl rfl, trivial⟩, fun Bb hB => SEB.block_exit (id := 0) ?_⟩
      · have := key Bb hB
        rw [hj] at this
        rw [e2]; exact this
    | inr e0 =>
      have e1 : jnB L = false := by simp [jnB, hj]
      have e2 : jnE L = e0 := by simp [jnE, hj]
      rw [e1] at hv
      simp only [Tr.get, Option.some.injEq, Prod.mk.injEq] at hv
      obtain ⟨rfl, rfl, rfl⟩ := hv
      refine ⟨⟨.inr rfl, .inr rfl, .inr rfl, .inr rfl, .inr rfl, .inr rfl, .inr rfl, .inr rfl, .inr rfl, .inl rfl, .inl rfl, trivial⟩, fun Bb hB => SEB.block_other (id := 0) ?_ (by simp)⟩
      · have := key Bb hB
        rw [hj] at this
        rw [e2]; exact this
  · cases h
end Go.Proofs.Tryz

/- The lexer's program: the contract of its Join. -/
namespace Go.Proofs.Tryz
open Go.Ad

def spJ : SP := ⟨[.list 8], dd8 ++ [.vecT 3]⟩
def sqJ : SP := ⟨[.str, .int .i64], dd8 ++ [.vecT 3]⟩
/-- What a join returns: the text (none if there is an error) and the error. -/
def joinR (L : List Tok) : List UInt8 × Int :=
  bif decide (L.length ≤ 4097) then (match joinL none L [] with
    | .inr e => ([], e)
    | .inl s => bif decide (s.length ≤ 4096) then (s, 0) else ([], 17)) else ([], 5)
noncomputable def TJo : List Lf → Tr (SP × List Lf)
  | [.n n, .n n', .r f, .n ty] => .br (propB (n' = n ∧ isToks n f)) (.leaf (sqJ, [.s (joinR (toksOf n f)).1, .i (joinR (toksOf n f)).2, .n n, .r f, .n ty])) .fail
  | _ => .fail

noncomputable def treeN (ty : Nat) (n : Nat) (f : Nat → List AV) (L : List Tok) : Option (List Lf) :=
  brK (decide ((n : Int) > 4097)) (some [.s [], .i 5, .n n, .r f, .n ty]) (brK (propB (n = n ∧ (n : Int) = n ∧ (0 : Int) = 0 ∧ n = n ∧ 0 = 0 ∧ ([] : List UInt8) = [] ∧ isToks n f ∧ n ≤ 4097)) (brK (jnB L) (brK (decide (((jnS L).length : Int) > 4096)) (some [.s [], .i 17, .n n, .r f, .n ty])
    (brK (decide (((jnS L).length : Int) = ((jnS L).length : Int) ∧ (jnS L).length = (jnS L).length ∧ (jnS L).length < 2147483648)) (some [.s (jnS L), .i 0, .n n, .r f, .n ty]) none)) (some [.s [], .i (jnE L), .n n, .r f, .n ty])) none)

theorem run24 (ty : Nat) (n : Nat) (f : Nat → List AV) : (runK prog pJ24 60).call 24 (spJ.rho [.n n, .n n, .r f, .n ty]) (spJ.heap [.n n, .n n, .r f, .n ty]) (finQ sqJ 9 []) = treeN ty n f (toksOf n f) := by kernel_rfl

theorem toksOf_len (n : Nat) (f : Nat → List AV) : (toksOf n f).length = n := by simp [toksOf]

theorem treeN_eq {ty n : Nat} {f : Nat → List AV} (h : isToks n f) : treeN ty n f (toksOf n f) = some [.s (joinR (toksOf n f)).1, .i (joinR (toksOf n f)).2, .n n, .r f, .n ty] := by
  unfold treeN joinR
  rw [toksOf_len]
  by_cases hn : n ≤ 4097
  · rw [decide_eq_false (show ¬ (n : Int) > 4097 by omega), decide_eq_true hn, propB_true (show _ ∧ _ from ⟨rfl, rfl, rfl, rfl, rfl, rfl, h, hn⟩)]
    cases hj : joinL none (toksOf n f) [] with
    | inr e =>
      have e1 : jnB (toksOf n f) = false := by simp [jnB, hj]
      have e2 : jnE (toksOf n f) = e := by simp [jnE, hj]
      rw [e1, e2]; rfl
    | inl s =>
      have e1 : jnB (toksOf n f) = true := by simp [jnB, hj]
      have e2 : jnS (toksOf n f) = s := by simp [jnS, hj]
      rw [e1, e2]
      by_cases hs : s.length ≤ 4096
      · rw [decide_eq_false (show ¬ (s.length : Int) > 4096 by omega), decide_eq_true (show (s.length : Int) = s.length ∧ s.length = s.length ∧ s.length < 2147483648 from ⟨rfl, rfl, by omega⟩)]
        simp only [decide_eq_true hs]; rfl
      · rw [decide_eq_true (show (s.length : Int) > 4096 by omega)]
        simp only [decide_eq_false hs]; rfl
  · rw [decide_eq_true (show (n : Int) > 4097 by omega), decide_eq_false hn]; rfl

noncomputable def pJ4 : Prims := pF.addh 24 (liftG 8 (funQ spJ 9 [] TJo))
theorem fr9 (ty : Nat) (n : Nat) (f : Nat → List AV) (s : List UInt8) (e : Int) : frP [] 0 (spJ.heap [.n n, .n n, .r f, .n ty]) (sqJ.heap [.s s, .i e, .n n, .r f, .n ty]) := ⟨.inr rfl, .inr rfl, .inr rfl, .inr rfl, .inr rfl, .inr rfl, .inr rfl, .inr rfl, .inr rfl, trivial⟩

theorem pJ4_ok {A : Amb} (hT : Tab A) (hG : prog.globals.size ≤ A.G) : PrimOK prog A pJ4 := by
  refine (pF_ok hT hG).addl gsz func24 (by kernel_rfl) (funQ_ok hmix hnum rfl fun ls sq l h => ?_)
  unfold TJo at h
  split at h
  · rename_i n n' f ty
    obtain ⟨hc, hv⟩ := Tr.br1 h
    obtain ⟨rfl, h2⟩ := propB_eq hc
    cases hv
    exact ⟨fr9 _ _ _ _ _, rfl, pJ24, 60, _, pJ24_ok hT hG, (run24 _ _ f).trans (treeN_eq h2), fun _ _ => .refl⟩
  · cases h
end Go.Proofs.Tryz
