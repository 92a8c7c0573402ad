/- Plain laws of quotients: a text is cut at a byte; the error of a quotient's text. -/
import Derived.Test.YtfjgehlpjppggaaGreatDoorAdNum
import Derived.Lib.IndexLaws
namespace Go.Ad
open Go.Lib (decDigits decFrom decNat digitVal nDigits itoa)
def cutAt (c : UInt8) : List UInt8 → Option (List UInt8 × List UInt8)
  | [] => none
  | b :: l => if b == c then some ([], l) else (cutAt c l).map fun p => (b :: p.1, p.2)
theorem cutAt_some {c : UInt8} : ∀ {a x y : List UInt8}, cutAt c a = some (x, y) → a = x ++ c :: y ∧ c ∉ x
  | [], _, _, h => by cases h
  | b :: l, x, y, h => by
    unfold cutAt at h
    cases hb : b == c with
    | true =>
      rw [hb, if_pos rfl] at h
      cases h
      have : b = c := by simpa using hb
      subst this
      exact ⟨rfl, by simp⟩
    | false =>
      rw [hb, if_neg (by simp)] at h
      cases hl : cutAt c l with
      | none => rw [hl] at h; cases h
      | some p =>
        rw [hl] at h
        obtain ⟨u, v⟩ := p
        cases h
        obtain ⟨h1, h2⟩ := cutAt_some hl
        have hbc : b ≠ c := by simpa using hb
        exact ⟨by rw [h1]; rfl, fun hm => by cases hm with | head => exact hbc rfl | tail _ hm => exact h2 hm⟩
theorem cutAt_mk {c : UInt8} : ∀ {x y : List UInt8}, c ∉ x → cutAt c (x ++ c :: y) = some (x, y)
  | [], y, _ => by simp [cutAt]
  | b :: x, y, h => by
    have hb : (b == c) = false := by rw [beq_eq_false_iff_ne]; exact fun e => h (by subst e; exact .head _)
    show (if b == c then _ else (cutAt c (x ++ c :: y)).map fun p => (b :: p.1, p.2)) = _
    rw [hb, if_neg (by simp), cutAt_mk fun hm => h (.tail _ hm)]
    rfl
theorem cutAt_none {c : UInt8} : ∀ {a : List UInt8}, c ∉ a → cutAt c a = none
  | [], _ => rfl
  | b :: l, h => by
    have hb : (b == c) = false := by rw [beq_eq_false_iff_ne]; exact fun e => h (by subst e; exact .head _)
    show (if b == c then _ else _) = _
    rw [hb, if_neg (by simp), cutAt_none fun hm => h (.tail _ hm)]
    rfl
theorem cutAt_none_iff {c : UInt8} {a : List UInt8} : cutAt c a = none ↔ c ∉ a := by
  constructor
  · intro h hm
    have key : ∀ l : List UInt8, c ∈ l → ∃ x y, l = x ++ c :: y ∧ c ∉ x := fun l => by
      induction l with
      | nil => intro hm; cases hm
      | cons b l ih =>
        intro hm
        by_cases hb : b = c
        · subst hb; exact ⟨[], l, rfl, by simp⟩
        · cases hm with
          | head => exact (hb rfl).elim
          | tail _ hm =>
            obtain ⟨x, y, e, hx⟩ := ih hm
            exact ⟨b :: x, y, by rw [e]; rfl, fun hh => by cases hh with | head => exact hb rfl | tail _ hh => exact hx hh⟩
    obtain ⟨x, y, e, hx⟩ := key a hm
    rw [e, cutAt_mk hx] at h
    cases h
  · exact cutAt_none
theorem cutAt_index (c : UInt8) : ∀ a : List UInt8, (Lib.indexByte a c = -1 ∧ cutAt c a = none) ∨ (∃ i : Nat, i < a.length ∧ Lib.indexByte a c = i ∧ cutAt c a = some (a.take i, a.drop (i + 1)))
  | [] => .inl ⟨rfl, rfl⟩
  | b :: l => by
    unfold cutAt Lib.indexByte
    cases hb : b == c with
    | true => exact .inr ⟨0, by simp, rfl, rfl⟩
    | false =>
      rw [if_neg (by simp)]
      rcases cutAt_index c l with ⟨h1, h2⟩ | ⟨i, h0, h1, h2⟩
      · left
        rw [h1, h2]
        exact ⟨rfl, rfl⟩
      · right
        refine ⟨i + 1, by simp; omega, ?_, by rw [h2]; rfl⟩
        rw [h1, if_neg (by rw [beq_iff_eq]; omega)]
        omega
def cutR (a : List UInt8) : List UInt8 × List UInt8 × Bool := match cutAt 47 a with
  | some (n, d) => (n, d, true)
  | none => (a, [49], false)
theorem cutR_len (a : List UInt8) : (cutR a).1.length ≤ a.length ∧ (cutR a).2.1.length ≤ a.length + 1 := by
  unfold cutR
  cases h : cutAt 47 a with
  | none => exact ⟨Nat.le_refl _, by simp⟩
  | some p =>
    obtain ⟨x, y⟩ := p
    obtain ⟨h1, h2⟩ := cutAt_some h
    rw [h1, List.length_append, List.length_cons]
    simp only
    omega
theorem errI_val (s : List UInt8) : errI s = 0 ∨ errI s = 3 ∨ errI s = 11 := by
  unfold errI
  split
  · exact .inr (.inl rfl)
  · split
    · exact .inr (.inl rfl)
    · split
      · exact .inr (.inr rfl)
      · exact .inl rfl
def errQ (a : List UInt8) : Int :=
  if errI (cutR a).1 = 3 ∨ errI (cutR a).2.1 = 3 then 3 else if errI (cutR a).1 ≠ 0 ∨ errI (cutR a).2.1 ≠ 0 then 11 else
    if (cutR a).2.2 = true ∧ ¬ (1 < dvalZ (cutR a).2.1 ∧ Int.gcd (dvalZ (cutR a).1) (dvalZ (cutR a).2.1) = 1) then 3 else 0
end Go.Ad
namespace Go.Ad
open Go.Lib (decDigits decFrom decNat digitVal nDigits itoa)
def digW (acc : Nat) (s : List UInt8) : Nat := s.foldl (fun n b => n * 10 + (b.toNat - 48)) acc
theorem digW_append (acc : Nat) (s t : List UInt8) : digW acc (s ++ t) = digW (digW acc s) t := by unfold digW; rw [List.foldl_append]
theorem digW_acc : ∀ (s : List UInt8) (acc : Nat), digW acc s = acc * 10 ^ s.length + digW 0 s
  | [], acc => by simp [digW]
  | b :: r, acc => by
    show digW (acc * 10 + (b.toNat - 48)) r = _ + digW (0 * 10 + (b.toNat - 48)) r
    rw [digW_acc r (acc * 10 + (b.toNat - 48)), digW_acc r (0 * 10 + (b.toNat - 48)), List.length_cons, Nat.pow_succ, Nat.add_mul, Nat.add_mul]
    rw [Nat.mul_assoc acc 10, Nat.mul_comm 10]
    omega
theorem digW_dec (U : Nat) : digW 0 (decDigits U) = U := by
  induction U using Nat.strongRecOn with
  | ind U ih =>
    have hd : ∀ v : Nat, (dig v).toNat - 48 = v % 10 := fun v => by
      unfold dig
      rw [UInt8.toNat_ofNat_of_lt' (show 48 + v % 10 < 256 by omega)]; omega
    by_cases h : U < 10
    · rw [dec_small h]
      show 0 * 10 + ((dig U).toNat - 48) = U
      rw [hd]; omega
    · rw [dec_big h, digW_append, ih (U / 10) (by omega)]
      show U / 10 * 10 + ((dig U).toNat - 48) = U
      rw [hd]; omega
theorem dig_toNat (v : Nat) : (dig v).toNat = 48 + v % 10 := by
  unfold dig
  exact UInt8.toNat_ofNat_of_lt' (show 48 + v % 10 < 256 by omega)
theorem digW_pad : ∀ (k v : Nat), digW 0 (pad k v) = v % 10 ^ k
  | 0, v => by simp [pad, digW, Nat.mod_one]
  | k + 1, v => by
    simp only [pad]
    rw [digW_append, digW_pad k]
    show v / 10 % 10 ^ k * 10 + ((dig v).toNat - 48) = _
    rw [dig_toNat, Nat.pow_succ, Nat.mul_comm (10 ^ k) 10, Nat.mod_mul]
    omega
theorem dec_all (U : Nat) : (decDigits U).all isDg = true := by
  rw [List.all_eq_true]
  intro b hb
  have := dec_digit U b hb
  simp [isDg, this]
theorem pad_of : ∀ (k : Nat) (s : List UInt8), s.length = k → s.all isDg = true → s = pad k (digW 0 s)
  | 0, s, hl, _ => by rw [List.eq_nil_of_length_eq_zero hl]; rfl
  | k + 1, s, hl, hd => by
    have hn : s ≠ [] := fun e => by rw [e] at hl; simp at hl
    obtain ⟨t, b, rfl⟩ : ∃ t b, s = t ++ [b] := ⟨s.dropLast, s.getLast hn, (List.dropLast_concat_getLast hn).symm⟩
    rw [List.all_append, Bool.and_eq_true] at hd
    have hb : 48 ≤ b.toNat ∧ b.toNat ≤ 57 := by simpa [isDg] using hd.2
    have ih := pad_of k t (by simpa using hl) hd.1
    rw [digW_append]
    show _ = pad (k + 1) (digW 0 t * 10 + (b.toNat - 48))
    simp only [pad]
    rw [show (digW 0 t * 10 + (b.toNat - 48)) / 10 = digW 0 t by omega, ← ih]
    congr 2
    apply UInt8.toNat_inj.1
    rw [dig_toNat]; omega
end Go.Ad
namespace Go.Ad
open Go.Lib (decDigits decFrom decNat digitVal nDigits itoa)
def hW (g : Nat → Nat) : Nat → Nat
  | 0 => 0
  | n + 1 => hW g n * 10 + g n
end Go.Ad
namespace Go.Ad
open Go.Lib (decDigits decFrom decNat digitVal nDigits itoa)
theorem itoaN (n : Nat) : itoa (n : Int) = decDigits n := by
  unfold itoa
  rw [if_neg (by omega), Int.toNat_natCast]
theorem digW_itoa (n : Nat) : digW 0 (itoa (n : Int)) = n := by rw [itoaN, digW_dec]
theorem itoaN_all (n : Nat) : (itoa (n : Int)).all isDg = true := by rw [itoaN]; exact dec_all n
theorem itoaN_len {n k : Nat} (h : n < 10 ^ k) (hk : 1 ≤ k) : (itoa (n : Int)).length ≤ k := by
  rw [itoaN, Lib.decDigits_length]
  obtain ⟨m, rfl⟩ : ∃ m, k = m + 1 := ⟨k - 1, by omega⟩
  exact nDigits_le m n h
theorem itoaN_lt (n : Nat) : n < 10 ^ (itoa (n : Int)).length := by
  rw [itoaN, Lib.decDigits_length]
  exact Lib.lt_pow_nDigits n
end Go.Ad
namespace Go.Ad
open Go.Lib (decDigits decFrom decNat digitVal nDigits itoa)
theorem pow10_lt {a : Nat} (b : Nat) (h : a < b) : 10 ^ a < 10 ^ b := Nat.pow_lt_pow_right (by decide) h
theorem lt_pow10 {n a : Nat} (b : Nat) (h : n < 10 ^ a) (hb : a ≤ b) : n < 10 ^ b := Nat.lt_of_lt_of_le h (Nat.pow_le_pow_right (by decide) hb)
theorem pow10_succ (m k : Nat) (h : m = k + 1) : 10 ^ m = 10 * 10 ^ k := by subst h; exact Nat.pow_succ'
def stripF (p : Nat) : Nat → Nat → Nat
  | 0, n => n
  | k + 1, n => if n % p = 0 then stripF p k (n / p) else n
def strip (p n : Nat) : Nat := stripF p n n
theorem div_less {p n : Nat} (hp : 2 ≤ p) (hn : 0 < n) : n / p < n := Nat.div_lt_self hn (by omega)
theorem div_pos_of {p n : Nat} (_ : 2 ≤ p) (hn : 0 < n) (h : n % p = 0) : 0 < n / p := by
  have h1 := Nat.div_add_mod n p
  rw [h, Nat.add_zero] at h1
  cases h0 : n / p with
  | zero => rw [h0, Nat.mul_zero] at h1; omega
  | succ k => omega
theorem stripF_more {p : Nat} (hp : 2 ≤ p) : ∀ k j n : Nat, 0 < n → n ≤ k → n ≤ j → stripF p k n = stripF p j n
  | 0, _, n, h0, h1, _ => by omega
  | _ + 1, 0, n, h0, _, h2 => by omega
  | k + 1, j + 1, n, h0, h1, h2 => by
    unfold stripF
    by_cases h : n % p = 0
    · rw [if_pos h, if_pos h]
      have h3 := div_less hp h0
      exact stripF_more hp k j (n / p) (div_pos_of hp h0 h) (by omega) (by omega)
    · rw [if_neg h, if_neg h]
theorem strip_step {p n : Nat} (hp : 2 ≤ p) (hn : 0 < n) (h : n % p = 0) : strip p (n / p) = strip p n := by
  unfold strip
  cases n with
  | zero => omega
  | succ k =>
    conv => rhs; unfold stripF
    rw [if_pos h]
    have h3 := div_less hp hn
    exact stripF_more hp _ _ _ (div_pos_of hp hn h) (Nat.le_refl _) (by omega)
theorem strip_end {p n : Nat} (h : n % p ≠ 0) : strip p n = n := by
  unfold strip
  cases n with
  | zero => rfl
  | succ k => unfold stripF; rw [if_neg h]
theorem strip_fac {p : Nat} (hp : 2 ≤ p) : ∀ n : Nat, 0 < n → 0 < strip p n ∧ strip p n ≤ n ∧ ∃ k, n = strip p n * p ^ k := fun n => by
  induction n using Nat.strongRecOn with
  | _ n ih =>
    intro hn
    by_cases h : n % p = 0
    · have h3 := div_less hp hn
      obtain ⟨h4, h5, k, h6⟩ := ih (n / p) h3 (div_pos_of hp hn h)
      rw [strip_step hp hn h] at h4 h5 h6
      refine ⟨h4, by omega, k + 1, ?_⟩
      have h1 := Nat.div_add_mod n p
      rw [h, Nat.add_zero] at h1
      rw [Nat.pow_succ, ← Nat.mul_assoc, ← h6, Nat.mul_comm]
      exact h1.symm
    · rw [strip_end h]
      exact ⟨hn, Nat.le_refl _, 0, by simp⟩
theorem fin_dvd {d : Nat} (hd : 0 < d) (h : strip 5 (strip 2 d) = 1) : d ∣ 10 ^ (4 * (itoa (d : Int)).length) := by
  obtain ⟨h1, h2, a, ha⟩ := strip_fac (p := 2) (by omega) d hd
  obtain ⟨h3, h4, b, hb⟩ := strip_fac (p := 5) (by omega) (strip 2 d) h1
  rw [h, Nat.one_mul] at hb
  have hd2 : d = 5 ^ b * 2 ^ a := by rw [← hb]; exact ha
  have h5 : 2 ^ (a + b) ≤ d := by
    rw [hd2, Nat.pow_add, Nat.mul_comm]
    exact Nat.mul_le_mul_right _ (Nat.pow_le_pow_left (by decide) _)
  have h6 := itoaN_lt d
  generalize (itoa (d : Int)).length = L at *
  have h7 : 2 ^ (a + b) < 2 ^ (4 * L) := by
    refine Nat.lt_of_le_of_lt h5 (Nat.lt_of_lt_of_le h6 ?_)
    rw [Nat.pow_mul]
    exact Nat.pow_le_pow_left (by decide) _
  have h8 : a + b < 4 * L := (Nat.pow_lt_pow_iff_right (by decide)).1 h7
  refine Nat.dvd_trans ?_ (Nat.pow_dvd_pow 10 (Nat.le_of_lt h8))
  rw [hd2, show (10 : Nat) = 5 * 2 from rfl, Nat.mul_pow]
  exact Nat.mul_dvd_mul (Nat.pow_dvd_pow _ (by omega)) (Nat.pow_dvd_pow _ (by omega))
def digs (d : Nat) : Nat → Nat → List UInt8
  | 0, _ => []
  | k + 1, r => if r = 0 then [] else itoa ((r * 10 / d : Nat) : Int) ++ digs d k (r * 10 % d)
theorem digs_zero (d : Nat) : ∀ k : Nat, digs d k 0 = []
  | 0 => rfl
  | k + 1 => by unfold digs; rw [if_pos rfl]
theorem digs_next {d k r : Nat} (h : r ≠ 0) : digs d (k + 1) r = itoa ((r * 10 / d : Nat) : Int) ++ digs d k (r * 10 % d) := by
  conv => lhs; unfold digs
  rw [if_neg h]
theorem dvd_next {d k r : Nat} (h : d ∣ r * 10 ^ (k + 1)) : d ∣ (r * 10 % d) * 10 ^ k := by
  rw [Nat.pow_succ, Nat.mul_comm (10 ^ k) 10, ← Nat.mul_assoc] at h
  have h1 := Nat.div_add_mod (r * 10) d
  rw [← h1, Nat.add_mul, Nat.mul_assoc] at h
  exact (Nat.dvd_add_right (Nat.dvd_mul_right _ _)).1 h
theorem dvd_small {d r : Nat} (h : d ∣ r * 10 ^ 0) (hr : r < d) : r = 0 := by
  rw [Nat.pow_zero, Nat.mul_one] at h
  exact Nat.eq_zero_of_dvd_of_lt h hr
theorem digit_small {d r : Nat} (hd : 0 < d) (hr : r < d) : r * 10 / d < 10 := by
  rw [Nat.div_lt_iff_lt_mul hd]
  omega
theorem itoa_dig {c : Nat} (h : c < 10) : itoa (c : Int) = [UInt8.ofNat (48 + c)] := by
  rw [itoaN, dec_small h]
  unfold dig
  rw [Nat.mod_eq_of_lt h]
theorem dig_nat {c : Nat} (h : c < 10) : (UInt8.ofNat (48 + c)).toNat = 48 + c := by
  rw [UInt8.toNat_ofNat']
  exact Nat.mod_eq_of_lt (by omega)
theorem digs_len {d : Nat} (hd : 0 < d) : ∀ k r : Nat, r < d → (digs d k r).length ≤ k
  | 0, _, _ => Nat.le_refl _
  | k + 1, r, hr => by
    by_cases h : r = 0
    · rw [h, digs_zero]; simp
    · rw [digs_next h, itoa_dig (digit_small hd hr), List.length_append]
      have := digs_len hd k (r * 10 % d) (Nat.mod_lt _ hd)
      simp only [List.length_cons, List.length_nil]; omega
theorem digs_all {d : Nat} : ∀ k r : Nat, (digs d k r).all isDg = true
  | 0, _ => rfl
  | k + 1, r => by
    by_cases h : r = 0
    · rw [h, digs_zero]; rfl
    · rw [digs_next h, List.all_append, itoaN_all, digs_all]; rfl
theorem digW_digs {d : Nat} (hd : 0 < d) : ∀ k r q : Nat, r < d → d ∣ r * 10 ^ k → digW q (digs d k r) * d = (q * d + r) * 10 ^ (digs d k r).length
  | 0, r, q, hr, h => by
    rw [dvd_small h hr]
    show q * d = (q * d + 0) * 10 ^ 0
    simp
  | k + 1, r, q, hr, h => by
    by_cases h0 : r = 0
    · rw [h0, digs_zero]
      show q * d = (q * d + 0) * 10 ^ 0
      simp
    · rw [digs_next h0, itoa_dig (digit_small hd hr)]
      have ih := digW_digs hd k (r * 10 % d) (q * 10 + r * 10 / d) (Nat.mod_lt _ hd) (dvd_next h)
      have hc := digit_small hd hr
      show digW (q * 10 + ((UInt8.ofNat (48 + r * 10 / d)).toNat - 48)) (digs d k (r * 10 % d)) * d = _ * 10 ^ ((digs d k (r * 10 % d)).length + 1)
      rw [dig_nat hc, Nat.add_sub_cancel_left, ih, Nat.pow_succ, Nat.mul_comm (10 ^ _) 10, ← Nat.mul_assoc]
      congr 1
      have h1 := Nat.div_add_mod (r * 10) d
      generalize r * 10 / d = c at *
      generalize r * 10 % d = m at *
      rw [Nat.add_mul, Nat.add_mul, Nat.mul_assoc, Nat.mul_comm 10 d, ← Nat.mul_assoc, Nat.add_assoc, Nat.mul_comm c d, h1]
theorem digs_last {d : Nat} (hd : 0 < d) : ∀ k r : Nat, r < d → d ∣ r * 10 ^ k → ∀ h : digs d k r ≠ [], (digs d k r).getLast h ≠ 48
  | 0, _, _, _, h => (h rfl).elim
  | k + 1, r, hr, hdv, h => by
    by_cases h0 : r = 0
    · subst h0; exact (h (digs_zero _ _)).elim
    · have hn := digs_next (d := d) (k := k) h0
      rw [itoa_dig (digit_small hd hr)] at hn
      have ih := digs_last hd k (r * 10 % d) (Nat.mod_lt _ hd) (dvd_next hdv)
      by_cases h1 : digs d k (r * 10 % d) = []
      · have h2 : r * 10 % d = 0 := by
          have := digW_digs hd k (r * 10 % d) 0 (Nat.mod_lt _ hd) (dvd_next hdv)
          rw [h1, Nat.zero_mul, Nat.zero_add] at this
          have : 0 * d = r * 10 % d * 10 ^ 0 := this
          simp at this
          omega
        rw [h1] at hn
        have hl : (digs d (k + 1) r).getLast h = UInt8.ofNat (48 + r * 10 / d) := by
          simp only [hn]; rfl
        rw [hl]
        intro e
        have e := congrArg UInt8.toNat e
        rw [dig_nat (digit_small hd hr)] at e
        have e : 48 + r * 10 / d = 48 := e
        have h3 := Nat.div_add_mod (r * 10) d
        rw [h2, show r * 10 / d = 0 by omega] at h3
        omega
      · have hl : (digs d (k + 1) r).getLast h = (digs d k (r * 10 % d)).getLast h1 := by
          simp only [hn]
          rw [List.getLast_append_of_ne_nil _ h1]
        rw [hl]
        exact ih h1
theorem digW_last (q : Nat) (b : List UInt8) (h : b ≠ []) : digW q b = digW q b.dropLast * 10 + ((b.getLast h).toNat - 48) := by
  conv => lhs; rw [← List.dropLast_concat_getLast h]
  rw [digW_append]; rfl
theorem last_mod {q : Nat} {b : List UInt8} (hb : b.all isDg = true) (h : b ≠ []) (hl : b.getLast h ≠ 48) : digW q b % 10 ≠ 0 := by
  rw [digW_last q b h]
  have h1 : isDg (b.getLast h) = true := List.all_eq_true.1 hb _ (List.getLast_mem h)
  have h2 : 48 ≤ (b.getLast h).toNat ∧ (b.getLast h).toNat ≤ 57 := by simpa [isDg] using h1
  have h3 : (b.getLast h).toNat ≠ 48 := fun e => hl (UInt8.toNat_inj.1 e)
  omega
theorem point_unique {n n' : Nat} {b b' : List UInt8} (hb : b.all isDg = true) (hb' : b'.all isDg = true) (hl : ∀ h : b ≠ [], b.getLast h ≠ 48) (hl' : ∀ h : b' ≠ [], b'.getLast h ≠ 48)
    (h : digW n b * 10 ^ b'.length = digW n' b' * 10 ^ b.length) : n = n' ∧ b = b' := by
  have key : ∀ (n n' : Nat) (b b' : List UInt8), b'.all isDg = true → (∀ h : b' ≠ [], b'.getLast h ≠ 48) → digW n b * 10 ^ b'.length = digW n' b' * 10 ^ b.length → ¬ b.length < b'.length := fun n n' b b' hb' hl' h hlt => by
    have hne : b' ≠ [] := fun e => by rw [e] at hlt; simp at hlt
    have h1 := last_mod (q := n') hb' hne (hl' hne)
    have h2 : b'.length = (b'.length - b.length - 1) + 1 + b.length := by omega
    rw [h2, Nat.pow_add, ← Nat.mul_assoc] at h
    have h3 := Nat.eq_of_mul_eq_mul_right (Nat.pow_pos (by decide)) h
    rw [Nat.pow_succ, ← Nat.mul_assoc] at h3
    rw [← h3, Nat.mul_mod_left] at h1
    exact h1 rfl
  have h1 : b.length = b'.length := by
    have k1 := key n n' b b' hb' hl' h
    have k2 := key n' n b' b hb hl h.symm
    omega
  rw [h1] at h
  have h := Nat.eq_of_mul_eq_mul_right (Nat.pow_pos (by decide)) h
  rw [digW_acc b n, digW_acc b' n'] at h
  have p1 := pad_of _ b rfl hb
  have p2 := pad_of _ b' rfl hb'
  have m1 : digW 0 b < 10 ^ b.length := by
    have := digW_pad b.length (digW 0 b)
    rw [← p1] at this
    rw [this]
    exact Nat.mod_lt _ (Nat.pow_pos (by decide))
  have m2 : digW 0 b' < 10 ^ b'.length := by
    have := digW_pad b'.length (digW 0 b')
    rw [← p2] at this
    rw [this]
    exact Nat.mod_lt _ (Nat.pow_pos (by decide))
  rw [h1] at h m1
  have h2 : (n * 10 ^ b'.length + digW 0 b) / 10 ^ b'.length = (n' * 10 ^ b'.length + digW 0 b') / 10 ^ b'.length := congrArg (· / 10 ^ b'.length) h
  have h3 : (n * 10 ^ b'.length + digW 0 b) % 10 ^ b'.length = (n' * 10 ^ b'.length + digW 0 b') % 10 ^ b'.length := congrArg (· % 10 ^ b'.length) h
  rw [Nat.add_comm, Nat.add_mul_div_right _ _ (Nat.pow_pos (by decide)), Nat.div_eq_of_lt m1, Nat.add_comm (n' * _), Nat.add_mul_div_right _ _ (Nat.pow_pos (by decide)), Nat.div_eq_of_lt m2] at h2
  rw [Nat.add_comm, Nat.add_mul_mod_self_right, Nat.mod_eq_of_lt m1, Nat.add_comm (n' * _), Nat.add_mul_mod_self_right, Nat.mod_eq_of_lt m2] at h3
  refine ⟨by omega, ?_⟩
  rw [p1, p2, h1, h3]
def fracT (d r : Nat) : List UInt8 := if r = 0 then [] else 46 :: digs d (4 * (itoa (d : Int)).length) r
def decT (N : Int) (d : Nat) : List UInt8 := (if N < 0 then [45] else []) ++ (itoa ((N.natAbs / d : Nat) : Int) ++ fracT d (N.natAbs % d))
def decR (x : List UInt8) : List UInt8 × Int :=
  if errQ x ≠ 0 then ([], errQ x) else if strip 5 (strip 2 (dvalZ (cutR x).2.1).toNat) ≠ 1 then ([], 14) else (decT (dvalZ (cutR x).1) (dvalZ (cutR x).2.1).toNat, 0)
end Go.Ad
