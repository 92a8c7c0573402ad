/- The lexer, plain: a joined text of good tokens is scanned to the same tokens. -/
import Derived.Test.YtfjgehlpjppggaaGreatDoorRef

namespace Go.Proofs.Tryz
open Go.Ad

theorem bAt_app {t r : List UInt8} {i : Nat} (h : i < t.length) : bAt (t ++ r) i = bAt t i := by
  unfold bAt
  rw [List.getD_eq_getElem?_getD, List.getElem?_append_left h, ← List.getD_eq_getElem?_getD]
theorem bAt_app2 {t r : List UInt8} : bAt (t ++ r) t.length = bAt r 0 := by
  unfold bAt
  rw [List.getD_eq_getElem?_getD, List.getElem?_append_right (Nat.le_refl _), Nat.sub_self, ← List.getD_eq_getElem?_getD]
theorem pCl_app {cs : List Int} {t r : List UInt8} {i : Nat} (h : i < t.length) : pCl cs (t ++ r) i = pCl cs t i := by unfold pCl; rw [bAt_app h]
theorem pCl_app2 {cs : List Int} {t r : List UInt8} : pCl cs (t ++ r) t.length = pCl cs r 0 := by unfold pCl; rw [bAt_app2]

theorem lenC_app {cs : List Int} {t r : List UInt8} (h : lenC cs t = t.length) (hr : r = [] ∨ pCl cs r 0 = false) : lenC cs (t ++ r) = t.length := by
  unfold lenC
  refine scanN_unique (Nat.zero_le _) (by simp) (fun j _ hj => ?_) (fun hl => ?_)
  · rw [pCl_app hj]
    exact scanN_true (p := pCl cs t) (k := t.length) (n := 0) (m := j) (Nat.zero_le _) (by unfold lenC at h; omega)
  · rcases hr with rfl | hr
    · simp at hl
    · rw [pCl_app2, hr]
theorem lenC_lt {cs : List Int} {t r : List UInt8} (h : lenC cs t < t.length) : lenC cs (t ++ r) = lenC cs t := by
  unfold lenC at *
  refine scanN_unique (Nat.zero_le _) (by simp; omega) (fun j _ hj => ?_) (fun hl => ?_)
  · rw [pCl_app (by omega)]
    exact scanN_true (p := pCl cs t) (k := t.length) (n := 0) (m := j) (Nat.zero_le _) hj
  · rw [pCl_app h]
    exact scanN_stop (p := pCl cs t) (k := t.length) (n := 0) (by omega)

theorem errW_inv {t : List UInt8} (h : errW t = 0) : wordN t = t.length ∧ 0 < t.length ∧ letB (bAt t 0) = true ∧ lenC [1, 2, 3] t = t.length := by
  unfold errW at h
  split at h
  · cases h
  · rename_i hn
    have h1 : wordN t ≠ 0 := fun e => hn (.inl e)
    have h2 : wordN t = t.length := by
      rcases Nat.decEq (wordN t) t.length with e | e
      · exact absurd (.inr e) hn
      · exact e
    refine ⟨h2, by omega, ?_⟩
    unfold wordN at h1 h2
    cases hc : letB (bAt t 0) && !t.isEmpty with
    | false => rw [hc] at h1; exact absurd rfl h1
    | true =>
      rw [hc] at h2
      simp only [Bool.and_eq_true] at hc
      exact ⟨hc.1, h2⟩

theorem errN_inv {t : List UInt8} (h : errN t = 0) : (numN t).1 = t.length ∧ 0 < t.length ∧ digB (bAt t 0) = true := by
  unfold errN at h
  split at h
  · cases h
  · rename_i hn
    have h1 : (numN t).1 ≠ 0 := fun e => hn (.inl e)
    have h2 : (numN t).1 = t.length := by
      rcases Nat.decEq (numN t).1 t.length with e | e
      · exact absurd (.inr (.inl e)) hn
      · exact e
    have hne : t.isEmpty = false := by
      cases t with
      | nil => simp at h2; exact absurd h2 h1
      | cons => rfl
    exact ⟨h2, by omega, (numN_pos hne).1 (by omega)⟩

theorem wordN_app {t r : List UInt8} (h : errW t = 0) (hr : r = [] ∨ pCl [1, 2, 3] r 0 = false) : wordN (t ++ r) = t.length := by
  obtain ⟨h1, h2, h3, h4⟩ := errW_inv h
  unfold wordN
  have he : (t ++ r).isEmpty = false := by cases t with | nil => simp at h2 | cons => rfl
  rw [bAt_app h2, h3, he, lenC_app h4 hr]; rfl

theorem numN_app {t r : List UInt8} (h : errN t = 0) (hr : r = [] ∨ (digB (bAt r 0) = false ∧ bAt r 0 ≠ 46)) : (numN (t ++ r)).1 = t.length := by
  obtain ⟨h1, h2, h3⟩ := errN_inv h
  rcases hr with rfl | ⟨r1, r2⟩
  · rw [List.append_nil]; exact h1
  have hp : pCl [2] r 0 = false := by simp [pCl, cls2, r1]
  unfold numN at h1
  cases hc : (decide (0 < lenC [2] t) && (decide (lenC [2] t + 1 < t.length) && (bAt t (lenC [2] t) == 46 && decide (0 < lenC [2] (t.drop (lenC [2] t + 1)))))) with
  | true =>
    rw [hc, cond_true] at h1
    simp only at h1
    simp only [Bool.and_eq_true, decide_eq_true_eq] at hc
    obtain ⟨c1, c2, c3, c4⟩ := hc
    have e1 : lenC [2] (t ++ r) = lenC [2] t := lenC_lt (by omega)
    have e2 : (t ++ r).drop (lenC [2] t + 1) = t.drop (lenC [2] t + 1) ++ r := List.drop_append_of_le_length (by omega)
    have e3 : lenC [2] (t.drop (lenC [2] t + 1) ++ r) = (t.drop (lenC [2] t + 1)).length := lenC_app (by rw [List.length_drop]; omega) (.inr hp)
    have e4 : lenC [2] (t.drop (lenC [2] t + 1)) = (t.drop (lenC [2] t + 1)).length := by rw [List.length_drop]; omega
    unfold numN
    rw [e1, e2, e3, ← e4, bAt_app (by omega), c3, decide_eq_true c1, decide_eq_true (show lenC [2] t + 1 < (t ++ r).length by simp; omega), decide_eq_true c4]
    exact h1
  | false =>
    rw [hc, cond_false] at h1
    simp only at h1
    have e1 : lenC [2] (t ++ r) = t.length := lenC_app h1 (.inr hp)
    unfold numN
    rw [e1, bAt_app2, show (bAt r 0 == 46) = false by simpa using r2]
    simp

/-- A scanned token. -/
def Gd (t : Tok) : Prop := (t.1 = 0 ∧ errW t.2.1 = 0) ∨ (t.1 = 1 ∧ errN t.2.1 = 0) ∨ (t.1 = 2 ∧ t.2.1.length = 1 ∧ markB (bAt t.2.1 0) = true)
/-- Whether a byte would make a token longer. -/
def extB (k c : Int) : Bool := (k == 0 && (letB c || digB c || c == 95)) || (k == 1 && (digB c || c == 46))

theorem mark_plain2 : ((List.range 256).all fun n => !markB (n : Int) || (!letB (n : Int) && !digB (n : Int) && !((n : Int) == 95) && !((n : Int) == 32) && !((n : Int) == 46))) = true := by kernel_rfl
theorem mark_ext {c : Int} (h0 : 0 ≤ c) (h1 : c < 256) (h : markB c = true) : letB c = false ∧ digB c = false ∧ (c == 95) = false ∧ (c == 32) = false ∧ (c == 46) = false := by
  obtain ⟨n, rfl⟩ : ∃ n : Nat, c = n := ⟨c.toNat, by omega⟩
  have hp := List.all_eq_true.1 mark_plain2 n (List.mem_range.2 (by omega))
  rw [h] at hp
  simp only [Bool.not_true, Bool.false_or, Bool.and_eq_true, Bool.not_eq_true'] at hp
  exact ⟨hp.1.1.1.1, hp.1.1.1.2, hp.1.1.2, hp.1.2, hp.2⟩
theorem let_ne {c : Int} (h : letB c = true) : digB c = false ∧ (c == 32) = false ∧ (c == 46) = false := by
  have := of_decide_eq_true h
  exact ⟨decide_eq_false (by omega), beq_eq_false_iff_ne.2 (by omega), beq_eq_false_iff_ne.2 (by omega)⟩
theorem dig_ne {c : Int} (h : digB c = true) : letB c = false ∧ (c == 32) = false := by
  have := of_decide_eq_true h
  exact ⟨decide_eq_false (by omega), beq_eq_false_iff_ne.2 (by omega)⟩

theorem Gd.pos {t : Tok} (h : Gd t) : 0 < t.2.1.length ∧ (bAt t.2.1 0 == 32) = false := by
  obtain ⟨b0, b1⟩ := bAt_range t.2.1 0
  rcases h with ⟨_, h⟩ | ⟨_, h⟩ | ⟨_, h1, h2⟩
  · obtain ⟨_, q1, q2, _⟩ := errW_inv h
    exact ⟨q1, (let_ne q2).2.1⟩
  · obtain ⟨_, q1, q2⟩ := errN_inv h
    exact ⟨q1, (dig_ne q2).2⟩
  · exact ⟨by omega, (mark_ext b0 b1 h2).2.2.2.1⟩

theorem tok_app {t : Tok} {r : List UInt8} (h : Gd t) (hr : r = [] ∨ extB t.1 (bAt r 0) = false) : tokK (t.2.1 ++ r) = (t.1, t.2.1.length, 0) := by
  obtain ⟨k, t, at0⟩ := t
  have hp := h.pos.1
  unfold tokK
  simp only at hp ⊢
  rw [bAt_app hp]
  obtain ⟨b0, b1⟩ := bAt_range t 0
  rcases h with ⟨hk, h⟩ | ⟨hk, h⟩ | ⟨hk, h1, h2⟩
  · simp only at hk h
    subst hk
    obtain ⟨_, q1, q2, _⟩ := errW_inv h
    have e : wordN (t ++ r) = t.length := wordN_app h (by
      rcases hr with rfl | hr
      · exact .inl rfl
      · refine .inr ?_
        simp only [extB, beq_self_eq_true, Bool.true_and, Bool.or_eq_false_iff] at hr
        simp [pCl, cls1, cls2, cls3, hr.1.1.1, hr.1.1.2, hr.1.2])
    rw [q2, cond_true, e, List.take_left, h]
  · simp only at hk h
    subst hk
    obtain ⟨_, q1, q2⟩ := errN_inv h
    have e : (numN (t ++ r)).1 = t.length := numN_app h (by
      rcases hr with rfl | hr
      · exact .inl rfl
      · refine .inr ?_
        simp [extB] at hr
        exact hr)
    rw [(dig_ne q2).1, cond_false, q2, cond_true, e, List.take_left, h]
  · simp only at hk h1 h2
    subst hk
    obtain ⟨q1, q2, _⟩ := mark_ext b0 b1 h2
    rw [q1, q2, h2, h1]; rfl

/-- The joined text, behind a token of a kind. -/
def joinT : Option Int → List Tok → List UInt8
  | _, [] => []
  | b, t :: r => sepJ b t.1 ++ (t.2.1 ++ joinT (some t.1) r)
theorem catJ_eq : ∀ (L : List Tok) (b : Option Int) (s : List UInt8), catJ b L s = s ++ joinT b L
  | [], _, s => by simp [catJ, joinT]
  | t :: r, b, s => by simp only [catJ, joinT]; rw [catJ_eq r]; simp
theorem sepJ_cases (k k2 : Int) : (apartB k k2 = true ∧ sepJ (some k) k2 = [32]) ∨ (apartB k k2 = false ∧ sepJ (some k) k2 = []) := by
  unfold sepJ
  cases h : apartB k k2 with
  | true => left; exact ⟨rfl, by simp [h]⟩
  | false => right; exact ⟨rfl, by simp [h]⟩

theorem join_ext {k : Int} {L : List Tok} (hk : k = 0 ∨ k = 1 ∨ k = 2) (hL : ∀ t, t ∈ L → Gd t) : joinT (some k) L = [] ∨ extB k (bAt (joinT (some k) L) 0) = false := by
  cases L with
  | nil => exact .inl rfl
  | cons u r =>
    right
    simp only [joinT]
    have hu := hL u (List.mem_cons_self ..)
    rcases sepJ_cases k u.1 with ⟨_, e⟩ | ⟨ha, e⟩
    · rw [e]
      show extB k 32 = false
      rcases hk with rfl | rfl | rfl <;> decide
    · rw [e, List.nil_append, bAt_app hu.pos.1]
      obtain ⟨b0, b1⟩ := bAt_range u.2.1 0
      rcases hu with ⟨h1, h⟩ | ⟨h1, h⟩ | ⟨h1, h2, h3⟩
      · obtain ⟨_, _, q, _⟩ := errW_inv h
        obtain ⟨q1, q2, q3⟩ := let_ne q
        rw [h1] at ha
        rcases hk with rfl | rfl | rfl
        · exact absurd ha (by decide)
        · simp [extB, q1]; simpa using q3
        · simp [extB]
      · rw [h1] at ha
        rcases hk with rfl | rfl | rfl
        · exact absurd ha (by decide)
        · exact absurd ha (by decide)
        · simp [extB]
      · obtain ⟨q1, q2, q3, q4, q5⟩ := mark_ext b0 b1 h3
        simp [extB, q1, q2, q3, q5]
end Go.Proofs.Tryz

/- The lexer, plain: the joined text of a scanned text has the same tokens, and is not longer. -/
namespace Go.Proofs.Tryz
open Go.Ad

def ktT (t : Tok) : Int × List UInt8 := (t.1, t.2.1)

theorem scan_tok {S : List UInt8} {a : Nat} {t : Tok} {r : List UInt8} (h : Gd t) (hS : S.drop a = t.2.1 ++ r) (hr : r = [] ∨ extB t.1 (bAt r 0) = false) (Acc : List Tok) :
    scanS S (S.length - a) a Acc = scanS S (S.length - (a + t.2.1.length)) (a + t.2.1.length) (Acc ++ [(t.1, t.2.1, (a : Int))]) := by
  have hp := h.pos
  have hl : S.length - a = t.2.1.length + r.length := by rw [← List.length_drop, hS, List.length_append]
  obtain ⟨k, hk⟩ : ∃ k, S.length - a = k + 1 := ⟨S.length - a - 1, by omega⟩
  have hb : bAt S a = bAt t.2.1 0 := by rw [← Nat.add_zero a, ← bAt_drop, hS, bAt_app hp.1]
  rw [hk]
  simp only [scanS, decide_eq_true (show a < S.length by omega), cond_true, hb, hp.2, cond_false]
  rw [hS, tok_app h hr]
  simp only [List.take_left]
  rw [show ((0 : Int) != 0) = false by decide, cond_false, scanS_fuel S k _ _ (by omega)]

theorem scan_blank {S : List UInt8} {a : Nat} {r : List UInt8} (hS : S.drop a = 32 :: r) (Acc : List Tok) : scanS S (S.length - a) a Acc = scanS S (S.length - (a + 1)) (a + 1) Acc := by
  have hl : S.length - a = r.length + 1 := by rw [← List.length_drop, hS, List.length_cons]
  have hb : bAt S a = 32 := by rw [← Nat.add_zero a, ← bAt_drop, hS]; rfl
  rw [hl]
  simp only [scanS, decide_eq_true (show a < S.length by omega), cond_true, hb]
  rw [show ((32 : Int) == 32) = true by decide, cond_true, scanS_fuel S r.length _ _ (by omega)]

theorem Gd.kind {t : Tok} (h : Gd t) : t.1 = 0 ∨ t.1 = 1 ∨ t.1 = 2 := by
  rcases h with ⟨h, _⟩ | ⟨h, _⟩ | ⟨h, _⟩
  · exact .inl h
  · exact .inr (.inl h)
  · exact .inr (.inr h)

theorem scanJ (S : List UInt8) : ∀ (L : List Tok) (b : Option Int) (a : Nat) (Acc : List Tok), (∀ t, t ∈ L → Gd t) → S.drop a = joinT b L → ∃ M, scanS S (S.length - a) a Acc = .inr (Acc ++ M) ∧ M.map ktT = L.map ktT
  | [], b, a, Acc, _, hS => by
    have : S.length - a = 0 := by
      have h := congrArg List.length hS
      simpa [joinT] using h
    rw [this]
    exact ⟨[], by simp [scanS], rfl⟩
  | t :: r, b, a, Acc, hL, hS => by
    have ht := hL t (List.mem_cons_self ..)
    have hr : ∀ u, u ∈ r → Gd u := fun u hu => hL u (List.mem_cons_of_mem _ hu)
    have step : ∀ a', S.drop a' = t.2.1 ++ joinT (some t.1) r → ∃ M, scanS S (S.length - a') a' Acc = .inr (Acc ++ M) ∧ M.map ktT = (t :: r).map ktT := by
      intro a' h
      have hd : S.drop (a' + t.2.1.length) = joinT (some t.1) r := by rw [← List.drop_drop, h, List.drop_left]
      obtain ⟨M, h1, h2⟩ := scanJ S r (some t.1) (a' + t.2.1.length) (Acc ++ [(t.1, t.2.1, (a' : Int))]) hr hd
      exact ⟨(t.1, t.2.1, (a' : Int)) :: M, by rw [scan_tok ht h (join_ext ht.kind hr), h1]; simp, by simp [h2, ktT]⟩
    simp only [joinT] at hS
    cases b with
    | none => exact step a (by simpa [sepJ] using hS)
    | some k =>
      rcases sepJ_cases k t.1 with ⟨_, e⟩ | ⟨_, e⟩
      · rw [e] at hS
        have hd : S.drop (a + 1) = t.2.1 ++ joinT (some t.1) r := by rw [← List.drop_drop, hS]; rfl
        obtain ⟨M, h1, h2⟩ := step (a + 1) hd
        exact ⟨M, by rw [scan_blank hS, h1], h2⟩
      · rw [e] at hS
        exact step a hS

theorem tokK_good {x : List UInt8} (hne : x.isEmpty = false) (h : (tokK x).2.2 = 0) (a : Int) : Gd ((tokK x).1, x.take (tokK x).2.1, a) := by
  unfold tokK at *
  have hl : 0 < x.length := by cases x with | nil => simp at hne | cons => simp
  cases h1 : letB (bAt x 0) with
  | true => rw [h1] at h; exact .inl ⟨rfl, h⟩
  | false =>
    rw [h1] at h
    simp only [cond_false] at h ⊢
    cases h2 : digB (bAt x 0) with
    | true => rw [h2] at h; exact .inr (.inl ⟨rfl, h⟩)
    | false =>
      rw [h2] at h
      simp only [cond_false] at h ⊢
      cases h3 : markB (bAt x 0) with
      | true =>
        refine .inr (.inr ⟨rfl, by simp; omega, ?_⟩)
        simp only [cond_true]
        have : bAt (x.take 1) 0 = bAt x 0 := by
          cases x with
          | nil => simp at hl
          | cons => rfl
        rw [this, h3]
      | false => rw [h3] at h; cases h

theorem scanS_good (s : List UInt8) : ∀ (k a : Nat) (L L' : List Tok), (∀ t, t ∈ L → Gd t) → scanS s k a L = .inr L' → ∀ t, t ∈ L' → Gd t
  | 0, a, L, L', hl, h => by cases h; exact hl
  | k + 1, a, L, L', hl, h => by
    simp only [scanS] at h
    by_cases hlt : a < s.length
    · rw [decide_eq_true hlt, cond_true] at h
      cases hb : bAt s a == 32 with
      | true => rw [hb, cond_true] at h; exact scanS_good s k (a + 1) L L' hl h
      | false =>
        rw [hb, cond_false] at h
        cases he : (tokK (s.drop a)).2.2 != 0 with
        | true => rw [he, cond_true] at h; cases h
        | false =>
          rw [he, cond_false] at h
          refine scanS_good s k _ _ L' (fun t ht => ?_) h
          rcases List.mem_append.mp ht with ht | ht
          · exact hl t ht
          · rw [List.mem_singleton.mp ht]
            exact tokK_good (drop_ne hlt) (by simpa using he) a
    · rw [decide_eq_false hlt, cond_false] at h; cases h; exact hl

/-- The byte at a place does not make a token longer that ends there. -/
def Adj (s : List UInt8) (a : Nat) (b : Option Int) : Prop := ∀ k, b = some k → a < s.length → (k = 0 → (letB (bAt s a) || digB (bAt s a)) = false) ∧ (k = 1 → digB (bAt s a) = false)

theorem tok_adj {s : List UInt8} {a : Nat} (ha : a < s.length) : Adj s (a + (tokK (s.drop a)).2.1) (some (tokK (s.drop a)).1) := by
  intro k hk hlt
  cases hk
  have hw : ∀ n, bAt s (a + n) = bAt (s.drop a) n := fun n => (bAt_drop s a n).symm
  rw [hw]
  have hx : (s.drop a).length = s.length - a := List.length_drop
  generalize hxe : s.drop a = x at *
  unfold tokK at *
  cases h1 : letB (bAt x 0) with
  | true =>
    rw [h1] at hlt
    simp only [cond_true] at hlt ⊢
    refine ⟨fun _ => ?_, fun h => by cases h⟩
    unfold wordN at *
    cases hc : letB (bAt x 0) && !x.isEmpty with
    | true =>
      rw [hc] at hlt
      simp only [cond_true] at hlt ⊢
      have := scanN_stop (p := pCl [1, 2, 3] x) (k := x.length) (n := 0) (by unfold lenC at hlt; omega)
      simp only [pCl, List.any_cons, List.any_nil, cls1, cls2, cls3, Bool.or_false, Bool.or_eq_false_iff] at this
      show (letB (bAt x (scanN (pCl [1, 2, 3] x) x.length 0)) || digB (bAt x (scanN (pCl [1, 2, 3] x) x.length 0))) = false
      rw [Bool.or_eq_false_iff]
      exact ⟨this.1, this.2.1⟩
    | false =>
      rw [h1] at hc
      simp at hc
      rw [hc] at hx
      simp at hx
      omega
  | false =>
    rw [h1] at hlt
    simp only [cond_false] at hlt ⊢
    cases h2 : digB (bAt x 0) with
    | true =>
      rw [h2] at hlt
      simp only [cond_true] at hlt ⊢
      refine ⟨fun h => (by cases h), fun _ => ?_⟩
      unfold numN at *
      cases hc : (decide (0 < lenC [2] x) && (decide (lenC [2] x + 1 < x.length) && (bAt x (lenC [2] x) == 46 && decide (0 < lenC [2] (x.drop (lenC [2] x + 1)))))) with
      | true =>
        rw [hc] at hlt
        simp only [cond_true] at hlt ⊢
        rw [← bAt_drop]
        generalize hy : x.drop (lenC [2] x + 1) = y at *
        have hyl : y.length = x.length - (lenC [2] x + 1) := by rw [← hy, List.length_drop]
        have := scanN_stop (p := pCl [2] y) (k := y.length) (n := 0) (by unfold lenC at hlt hyl; omega)
        show digB (bAt y (scanN (pCl [2] y) y.length 0)) = false
        simpa [pCl, cls2] using this
      | false =>
        rw [hc] at hlt
        simp only [cond_false] at hlt ⊢
        have := scanN_stop (p := pCl [2] x) (k := x.length) (n := 0) (by unfold lenC at hlt; omega)
        show digB (bAt x (scanN (pCl [2] x) x.length 0)) = false
        simpa [pCl, cls2] using this
    | false =>
      simp only [cond_false]
      cases h3 : markB (bAt x 0) with
      | true => exact ⟨fun h => (by cases h), fun h => by cases h⟩
      | false =>
        rw [h2, h3] at hlt
        simp only [cond_false] at hlt ⊢
        exact ⟨fun _ => by rw [h1, h2]; rfl, fun h => by cases h⟩

theorem joinT_len (s : List UInt8) : ∀ (k a : Nat) (Acc L' : List Tok), a ≤ s.length → scanS s k a Acc = .inr L' →
    ∃ M, L' = Acc ++ M ∧ (∀ b, (joinT b M).length ≤ s.length - a + 1) ∧ (∀ b, Adj s a b → (joinT b M).length ≤ s.length - a)
  | 0, a, Acc, L', _, h => by cases h; exact ⟨[], by simp, fun b => by simp [joinT], fun b _ => by simp [joinT]⟩
  | k + 1, a, Acc, L', ha, h => by
    simp only [scanS] at h
    by_cases hlt : a < s.length
    · rw [decide_eq_true hlt, cond_true] at h
      cases hb : bAt s a == 32 with
      | true =>
        rw [hb, cond_true] at h
        obtain ⟨M, h1, h2, h3⟩ := joinT_len s k (a + 1) Acc L' (by omega) h
        exact ⟨M, h1, fun b => by have := h2 b; omega, fun b _ => by have := h2 b; omega⟩
      | false =>
        rw [hb, cond_false] at h
        cases he : (tokK (s.drop a)).2.2 != 0 with
        | true => rw [he, cond_true] at h; cases h
        | false =>
          rw [he, cond_false] at h
          obtain ⟨hn, _⟩ := tokK_le (s.drop a) (drop_ne hlt)
          rw [List.length_drop] at hn
          obtain ⟨M, h1, h2, h3⟩ := joinT_len s k _ _ L' (by omega) h
          have hG : Gd ((tokK (s.drop a)).1, (s.drop a).take (tokK (s.drop a)).2.1, (a : Int)) := tokK_good (drop_ne hlt) (by simpa using he) a
          have h4 := h3 _ (tok_adj hlt)
          have hlen : ((s.drop a).take (tokK (s.drop a)).2.1).length = (tokK (s.drop a)).2.1 := by rw [List.length_take, List.length_drop]; omega
          have hb0 : bAt ((s.drop a).take (tokK (s.drop a)).2.1) 0 = bAt s a := by
            have hpos := hG.pos.1
            simp only at hpos
            rw [← Nat.add_zero a, ← bAt_drop, Nat.add_zero]
            generalize s.drop a = x at *
            unfold bAt
            rw [List.getD_eq_getElem?_getD, List.getD_eq_getElem?_getD, List.getElem?_take_of_lt (by omega)]
          refine ⟨_ :: M, by rw [h1, List.append_assoc]; rfl, fun b => ?_, fun b hA => ?_⟩
          · simp only [joinT, List.length_append, hlen]
            have : (sepJ b (tokK (s.drop a)).1).length ≤ 1 := by
              cases b with
              | none => simp [sepJ]
              | some q => rcases sepJ_cases q (tokK (s.drop a)).1 with ⟨_, e⟩ | ⟨_, e⟩ <;> simp [e]
            omega
          · simp only [joinT, List.length_append, hlen]
            have : (sepJ b (tokK (s.drop a)).1).length = 0 := by
              cases b with
              | none => simp [sepJ]
              | some q =>
                rcases sepJ_cases q (tokK (s.drop a)).1 with ⟨hap, _⟩ | ⟨_, e⟩
                · exfalso
                  obtain ⟨q0, q1⟩ := hA q rfl hlt
                  unfold apartB at hap
                  rcases hG with ⟨g, g2⟩ | ⟨g, g2⟩ | ⟨g, _⟩
                  · simp only at g g2
                    rw [g] at hap
                    have hq : q = 0 := by simpa using hap
                    have := q0 hq
                    obtain ⟨_, _, c, _⟩ := errW_inv g2
                    rw [hb0] at c
                    rw [c] at this; cases this
                  · simp only at g g2
                    rw [g] at hap
                    obtain ⟨_, _, c⟩ := errN_inv g2
                    rw [hb0] at c
                    have hq : q = 0 ∨ q = 1 := by simpa using hap
                    rcases hq with hq | hq
                    · have := q0 hq
                      rw [c] at this; simp at this
                    · have := q1 hq
                      rw [c] at this; cases this
                  · simp only at g
                    rw [g] at hap
                    simp at hap
                · simp [e]
            omega
    · rw [decide_eq_false hlt, cond_false] at h; cases h
      exact ⟨[], by simp, fun b => by simp [joinT], fun b _ => by simp [joinT]⟩
end Go.Proofs.Tryz
