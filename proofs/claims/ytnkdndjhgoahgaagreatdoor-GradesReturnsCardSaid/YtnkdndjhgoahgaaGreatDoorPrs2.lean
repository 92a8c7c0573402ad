/- Texts of classes: the place of a letter. -/
import Derived.Test.YtnkdndjhgoahgaaGreatDoorPrs

namespace Go.Proofs.Tryz
open Go.Ad

def lettS : List UInt8 := [100, 101, 102, 103, 104, 106, 107, 109, 110, 112]
def capS : List UInt8 := [68, 69, 70, 71, 72, 74, 75, 77, 78, 80]

def plGo (b : Int) : List UInt8 → Int → Option AV
  | [], _ => some (.int .i64 (-1))
  | c :: r, i => brK ((c.toNat : Int) == b) (some (.int .i64 i)) (plGo b r (i + 1))

theorem plRunL (b : Int) : (runK prog (prs lib) 60).call 37 [.str lettS, .rng .u8 b 0 255] (Bg 9) finV = plGo b lettS 0 := by kernel_rfl
theorem plRunC (b : Int) : (runK prog (prs lib) 60).call 37 [.str capS, .rng .u8 b 0 255] (Bg 9) finV = plGo b capS 0 := by kernel_rfl

/-- The place of a byte, for a number that is one. -/
def plcF (l : List UInt8) (b : Int) : Int := Lib.indexByte l b.toNat.toUInt8

theorem byte_eq {b : Int} (hb : 0 ≤ b ∧ b ≤ 255) (c : UInt8) : (c == b.toNat.toUInt8) = ((c.toNat : Int) == b) := by
  rw [Bool.eq_iff_iff, beq_iff_eq, beq_iff_eq]
  constructor
  · intro h
    rw [h]
    have : b.toNat.toUInt8.toNat = b.toNat % 256 := by simp [Nat.toUInt8]
    rw [this]; omega
  · intro h
    apply UInt8.toNat_inj.1
    have : b.toNat.toUInt8.toNat = b.toNat % 256 := by simp [Nat.toUInt8]
    rw [this]; omega

theorem plGo_eq {b : Int} (hb : 0 ≤ b ∧ b ≤ 255) : ∀ (l : List UInt8) (i : Int), plGo b l i = some (.int .i64 (if plcF l b = -1 then -1 else i + plcF l b))
  | [], i => by simp [plGo, plcF, Lib.indexByte]
  | c :: r, i => by
    have ih := plGo_eq hb r (i + 1)
    have hge := indexByte_ge b.toNat.toUInt8 r
    simp only [plGo, plcF, Lib.indexByte, byte_eq hb] at ih ⊢
    cases hc : ((c.toNat : Int) == b) with
    | true => simp [brK]
    | false =>
      simp only [brF, ih, Bool.false_eq_true, if_false, beq_iff_eq]
      by_cases h : Lib.indexByte r b.toNat.toUInt8 = -1
      · simp [h, brF]
      · simp only [if_neg h]
        have : Lib.indexByte r b.toNat.toUInt8 + 1 ≠ -1 := by omega
        rw [if_neg this]
        congr 2; omega

def sPlc : List AV → Tr AV
  | [.str l, x] => match snum x with
    | some (.u8, b) => bif l == lettS || l == capS then .br (decide (0 ≤ b ∧ b ≤ 255)) (.leaf (.rng .i64 (plcF l b) (-1) 9)) .fail else .fail
    | _ => .fail
  | _ => .fail

def prs2 : Prims := (prs lib).addt 37 sPlc

theorem prs2_ok {A : Amb} (hT : Tab A) (hG : prog.globals.size ≤ A.G) : PrimOK prog A prs2 := PrimOK.addt hmix hnum (prs_ok (lib_ok hT)) hG func37 (by kernel_rfl) fun args v hg => by
  unfold sPlc at hg
  split at hg
  · rename_i l x
    split at hg
    · rename_i b hx
      cases hb : (l == lettS || l == capS) with
      | false => rw [hb] at hg; cases hg
      | true =>
        rw [hb] at hg
        obtain ⟨h1, h2⟩ := Tr.br_get0 hg
        cases h2
        rw [decide_eq_true_eq] at h1
        have hr : (runK prog (prs lib) 60).call 37 [.str l, .rng .u8 b 0 255] (Bg 9) finV = plGo b l 0 := by
          rw [Bool.or_eq_true, beq_iff_eq, beq_iff_eq] at hb
          rcases hb with rfl | rfl
          · exact plRunL b
          · exact plRunC b
        rw [plGo_eq h1] at hr
        obtain ⟨B', hca⟩ := Ca.of_finV hr
        have hlen : l.length = 10 := by
          rw [Bool.or_eq_true, beq_iff_eq, beq_iff_eq] at hb
          rcases hb with rfl | rfl <;> rfl
        refine ⟨_, _, B', fun ι xs hx' => ?_, fun ι x hv => ?_, rfl, rfl, by rw [gsz]; exact hca⟩
        · simp only [VRL] at hx' ⊢
          obtain ⟨_, _, rfl, q1, _, _, rfl, q2, rfl⟩ := hx'
          exact ⟨_, _, rfl, q1, _, _, rfl, by simp only [VR]; exact ⟨snum_VR hx q2, h1⟩, rfl⟩
        · simp only [VR] at hv ⊢
          have hge := indexByte_ge b.toNat.toUInt8 l
          rw [hv]
          unfold plcF
          refine ⟨?_, by omega, by omega⟩
          split
          · rename_i h; rw [h]
          · rw [Int.zero_add]
    · cases hg
  · cases hg
end Go.Proofs.Tryz
