/- Texts of classes: what the library's functions give at texts that are not known. -/
import Derived.Test.YtnkdndjhgoahgaaGreatDoorShelf
import Derived.Test.YtnkdndjhgoahgaaGreatDoorBase
import Derived.Test.YtnkdndjhgoahgaaGreatDoorAdLoop
import Derived.Lib.SmallJoins

namespace Go.Proofs.Tryz
open Go.Ad

def isDig (b : UInt8) : Bool := decide (48 ≤ b.toNat) && decide (b.toNat ≤ 57)
/-- The number that digits spell. -/
def numF : Int → List UInt8 → Int
  | a, [] => a
  | a, b :: r => numF (10 * a + ((b.toNat : Int) - 48)) r

theorem decFrom_num : ∀ (l : List UInt8) (a : Nat), l.all isDig = true → ∃ n : Nat, Lib.decFrom a l = some n ∧ (n : Int) = numF a l
  | [], a, _ => ⟨a, rfl, rfl⟩
  | b :: r, a, h => by
    simp only [List.all_cons, Bool.and_eq_true, isDig, decide_eq_true_eq] at h
    obtain ⟨n, h1, h2⟩ := decFrom_num r (a * 10 + (b.toNat - 48)) h.2
    refine ⟨n, ?_, ?_⟩
    · simp only [Lib.decFrom, Lib.digitVal, if_pos h.1]; exact h1
    · rw [h2, numF]
      congr 1
      omega

theorem atoi_num {l : List UInt8} (h : l.all isDig = true) (h0 : 0 < l.length) : Lib.atoi l = some (numF 0 l) := by
  match l, h, h0 with
  | b :: r, h, _ =>
    obtain ⟨n, h1, h2⟩ := decFrom_num (b :: r) 0 h
    simp only [List.all_cons, Bool.and_eq_true, isDig, decide_eq_true_eq] at h
    have e1 : (b == 45) = false := by
      rw [beq_eq_false_iff_ne]; intro e; subst e; exact absurd h.1.1 (by decide)
    have e2 : (b == 43) = false := by
      rw [beq_eq_false_iff_ne]; intro e; subst e; exact absurd h.1.1 (by decide)
    simp only [Lib.atoi, e1, e2, Bool.false_eq_true, if_false, Lib.decNat, List.isEmpty_cons, h1, Option.map_some, h2]
    rfl

theorem numF_bound : ∀ {l : List UInt8} {a c : Int}, l.all isDig = true → 0 ≤ a → a ≤ c → 0 ≤ numF a l ∧ numF a l ≤ (c + 1) * 10 ^ l.length - 1
  | [], a, c, _, h1, h2 => by simp only [numF, List.length_nil, Int.pow_zero]; omega
  | b :: r, a, c, h, h1, h2 => by
    simp only [List.all_cons, Bool.and_eq_true, isDig, decide_eq_true_eq] at h
    have := numF_bound (l := r) (a := 10 * a + ((b.toNat : Int) - 48)) (c := 10 * c + 9) h.2 (by omega) (by omega)
    simp only [numF, List.length_cons]
    refine ⟨this.1, ?_⟩
    have e : (10 * c + 9 + 1) * 10 ^ r.length = (c + 1) * 10 ^ (r.length + 1) := by rw [Int.pow_succ]; rw [show (10 * c + 9 + 1 : Int) = (c + 1) * 10 by omega, Int.mul_assoc, Int.mul_comm 10]
    rw [← e]; exact this.2

def gTrim : List AV → Tr AV
  | [x, .str cs] => match sstr? x with
    | some s => bif cs.all (fun b => decide (b.toNat < 128)) && decide (cs.length ≤ 1000) then .br (decide (s.length ≤ 9223372036854775807)) (.leaf (.sstr (Lib.trimS s cs))) .fail else .fail
    | none => .fail
  | _ => .fail

def gIndex : List AV → Tr AV
  | [.str s, x] => match sstr? x with
    | some t => .br (decide (t.length = 1)) (.leaf (.rng .i64 (Lib.indexByte s (t.headD 0)) (-1) ((s.length : Int) - 1))) .fail
    | none => .fail
  | _ => .fail

def gAtoi : List AV → Tr AV
  | [x] => match sstr? x with
    | some s => .br (decide (0 < s.length) && (decide (s.length ≤ 3) && s.all isDig)) (.leaf (.tuple [.rng .i64 (numF 0 s) 0 999, .nilIface])) .fail
    | none => .fail
  | _ => .fail

theorem sstr?_VR {ι : Emb} {x : AV} {s : List UInt8} (h : sstr? x = some s) {v : Value} (hv : VR ι x v) : ∃ b : ByteArray, b.data.toList = s ∧ v = .string b := by
  cases x <;> simp [sstr?] at h
  all_goals (subst h; simp only [VR] at hv)
  · exact hv
  · exact hv.1
  · exact hv

theorem indexByte_ge (c : UInt8) : ∀ l : List UInt8, -1 ≤ Lib.indexByte l c ∧ Lib.indexByte l c ≤ (l.length : Int) - 1
  | [] => by simp [Lib.indexByte]
  | b :: r => by
    have := indexByte_ge c r
    simp only [Lib.indexByte, List.length_cons]
    split
    · omega
    · split
      · omega
      · rename_i h
        simp only [beq_iff_eq] at h
        omega

def prs (prims : Prims) : Prims := ((prims.addt 34 gTrim).addt 32 gIndex).addt 35 gAtoi

theorem prs_ok {A : Amb} {prims : Prims} (hp : PrimOK prog A prims) : PrimOK prog A (prs prims) := by
  refine PrimOK.libt (PrimOK.libt (PrimOK.libt hp func34 (by kernel_rfl) ?_) func32 (by kernel_rfl) ?_) func35 (by kernel_rfl) ?_
  · intro args v hg ι w xs _ _ hx
    unfold gTrim at hg
    split at hg
    · rename_i x cs
      split at hg
      · rename_i s hs
        cases hb : (cs.all (fun b => decide (b.toNat < 128)) && decide (cs.length ≤ 1000)) with
        | false => rw [hb] at hg; cases hg
        | true =>
          rw [hb] at hg
          obtain ⟨h1, h2⟩ := Tr.br_get0 hg
          cases h2
          rw [decide_eq_true_eq] at h1
          simp only [Bool.and_eq_true, decide_eq_true_eq] at hb
          simp only [VRL] at hx
          obtain ⟨_, _, hxs, q1, _, _, rfl, q2, rfl⟩ := hx
          obtain ⟨b1, rfl, rfl⟩ := sstr?_VR hs q1
          simp only [VR] at q2
          obtain ⟨b2, rfl, rfl⟩ := q2
          have e1 : xs = #[.string b1, .string b2] := by apply Array.ext'; simpa using hxs
          subst e1
          have hl1 : b1.data.toList.length = b1.size := by simp
          have hl2 : b2.data.toList.length = b2.size := by simp
          refine (Any.strings_Trim_laid Tryz.lays160 (by kernel_rfl) b1 b2 w (by omega) (by omega) (ascii_of_all hb.1)).mono fun e w' ⟨h1, h2⟩ => ?_
          subst h1
          exact ⟨_, rfl, by simp only [VR]; exact ⟨_, by simp, rfl⟩, ⟨h2.size, h2.block, h2.tape, h2.os, h2.output⟩⟩
      · cases hg
    · cases hg
  · intro args v hg ι w xs _ _ hx
    unfold gIndex at hg
    split at hg
    · rename_i s x
      split at hg
      · rename_i t hs
        obtain ⟨h1, h2⟩ := Tr.br_get0 hg
        cases h2
        rw [decide_eq_true_eq] at h1
        simp only [VRL] at hx
        obtain ⟨_, _, hxs, q1, _, _, rfl, q2, rfl⟩ := hx
        simp only [VR] at q1
        obtain ⟨b1, rfl, rfl⟩ := q1
        obtain ⟨b2, rfl, rfl⟩ := sstr?_VR hs q2
        have e1 : xs = #[.string b1, .string b2] := by apply Array.ext'; simpa using hxs
        subst e1
        obtain ⟨⟨l2⟩⟩ := b2
        match l2, h1 with
        | [c], _ =>
          refine (Tryz.strings_Index_one b1 c w).mono fun e w' ⟨h1, h2⟩ => ?_
          subst h1 h2
          exact ⟨_, rfl, by simp only [VR]; exact ⟨rfl, indexByte_ge _ _⟩, Quiet.refl _⟩
      · cases hg
    · cases hg
  · intro args v hg ι w xs _ _ hx
    unfold gAtoi at hg
    split at hg
    · rename_i x
      split at hg
      · rename_i s hs
        obtain ⟨h1, h2⟩ := Tr.br_get0 hg
        cases h2
        simp only [Bool.and_eq_true, decide_eq_true_eq] at h1
        obtain ⟨h1, h2, h3⟩ := h1
        simp only [VRL] at hx
        obtain ⟨_, _, hxs, q1, rfl⟩ := hx
        obtain ⟨b1, rfl, rfl⟩ := sstr?_VR hs q1
        have e1 : xs = #[.string b1] := by apply Array.ext'; simpa using hxs
        subst e1
        have hl1 : b1.data.toList.length = b1.size := by simp
        refine (Tryz.strconv_Atoi b1 _ (by omega) (atoi_num h3 h1) w).mono fun e w' ⟨h1', t, h2'⟩ => ?_
        subst h1' h2'
        refine ⟨_, rfl, ?_, ?_⟩
        · have hbd := numF_bound (a := 0) (c := 0) h3 (by omega) (by omega)
          have : (10 : Int) ^ b1.data.toList.length ≤ 1000 := by
            match b1.data.toList.length, h2 with
            | 0, _ => decide
            | 1, _ => decide
            | 2, _ => decide
            | 3, _ => decide
          simp only [VR, VRL]
          exact ⟨_, rfl, _, _, rfl, ⟨rfl, hbd.1, by omega⟩, _, _, rfl, rfl, rfl⟩
        · have hb := Go.Joins.below_bytesWorld w.heap.size w 5 t (Nat.le_refl _)
          exact ⟨hb.size, hb.block, hb.tape, hb.os, hb.output⟩
      · cases hg
    · cases hg
end Go.Proofs.Tryz
