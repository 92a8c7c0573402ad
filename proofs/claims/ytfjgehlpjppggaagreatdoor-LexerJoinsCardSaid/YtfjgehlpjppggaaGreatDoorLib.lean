/- The lexer's program: strings.Trim, strings.Index of one byte and strconv.Atoi as known functions. -/
import Derived.Test.YtfjgehlpjppggaaGreatDoorBase
import Derived.Test.YtfjgehlpjppggaaGreatDoorAdPat
import Derived.Lib.SmallJoins

namespace Go.Proofs.Tryz
open Go.Ad

def trimOK (cs : List UInt8) : Bool := cs.all (fun b => decide (b.toNat < 128)) && decide (cs.length ≤ 1000)
def gTrim : List AV → Tr AV
  | [.str s, .str cs] => bif trimOK cs && decide (s.length ≤ 9223372036854775807) then .leaf (.str (Lib.trimS s cs)) else .fail
  | [x, .str cs] => match sstr? x with
    | some s => bif trimOK cs then .br (decide (s.length ≤ 9223372036854775807)) (.leaf (.sstr (Lib.trimS s cs))) .fail else .fail
    | none => .fail
  | _ => .fail

def gIndex : List AV → Tr AV
  | [.str s, .str [c]] => .leaf (.int .i64 (Lib.indexByte s c))
  | [x, .str [c]] => match sstr? x with
    | some s => .leaf (.sint .i64 (Lib.indexByte s c))
    | none => .fail
  | _ => .fail

def gAtoi : List AV → Tr AV
  | [.str s] => match Lib.atoi s with
    | some n => bif decide (s.length ≤ 18) then .leaf (.tuple [.int .i64 n, .nilIface]) else .fail
    | none => .fail
  | [x] => match sstr? x with
    | some s => .br (decide (s.length ≤ 18) && (Lib.atoi s).isSome) (.leaf (.tuple [.sint .i64 ((Lib.atoi s).getD 0), .nilIface])) .fail
    | none => .fail
  | _ => .fail

def lib2 : Prims := ((lib.addt 31 gTrim).addt 86 gIndex).addt 145 gAtoi

theorem ascii_of_all {b : ByteArray} (h : b.data.toList.all (fun c => decide (c.toNat < 128)) = true) : ∀ (j : Nat) (c : UInt8), b.data.toList[j]? = some c → c.toNat < 128 := fun j c hc => by
  have := List.all_eq_true.1 h c (List.mem_of_getElem? hc)
  exact of_decide_eq_true this

theorem lib2_ok {A : Amb} (hT : Tab A) : PrimOK prog A lib2 := by
  refine PrimOK.libt (PrimOK.libt (PrimOK.libt (lib_ok hT) func31 (by kernel_rfl) ?_) func86 (by kernel_rfl) ?_) func145 (by kernel_rfl) ?_
  · intro args v hg ι w xs _ _ hx
    have key : ∀ (b1 b2 : ByteArray), trimOK b2.data.toList = true → b1.data.toList.length ≤ 9223372036854775807 → xs = #[.string b1, .string b2] →
        Calls prog 31 xs w fun e w' => ∃ v', e = .returned v' ∧ (∃ b : ByteArray, b.data.toList = Lib.trimS b1.data.toList b2.data.toList ∧ v' = .string b) ∧ Quiet w w' := fun b1 b2 h1 h2 e1 => by
      subst e1
      simp only [trimOK, Bool.and_eq_true, decide_eq_true_eq] at h1
      have hl1 : b1.data.toList.length = b1.size := by simp
      have hl2 : b2.data.toList.length = b2.size := by simp
      refine (Any.strings_Trim_laid Tryz.lays160 (by kernel_rfl) b1 b2 w (by omega) (by omega) (ascii_of_all h1.1)).mono fun e w' ⟨h1, h2⟩ => ?_
      subst h1
      exact ⟨_, rfl, ⟨_, by simp, rfl⟩, ⟨h2.size, h2.block, h2.tape, h2.os, h2.output⟩⟩
    unfold gTrim at hg
    split at hg
    · rename_i s cs
      cases hb : (trimOK cs && decide (s.length ≤ 9223372036854775807)) with
      | false => rw [hb] at hg; cases hg
      | true =>
        rw [hb] at hg
        cases hg
        simp only [Bool.and_eq_true, decide_eq_true_eq] at hb
        simp only [VRL, VR] at hx
        obtain ⟨_, _, hxs, ⟨b1, rfl, rfl⟩, _, _, rfl, ⟨b2, rfl, rfl⟩, rfl⟩ := hx
        exact (key b1 b2 hb.1 hb.2 (arr2 hxs)).mono fun e w' ⟨v', q1, q2, q3⟩ => ⟨v', q1, by simp only [VR]; exact q2, q3⟩
    · rename_i x cs _
      split at hg
      · rename_i s hs
        cases hb : trimOK cs with
        | false => rw [hb] at hg; cases hg
        | true =>
          rw [hb] at hg
          obtain ⟨h1, h2⟩ := Tr.br_get0 hg
          cases h2
          rw [decide_eq_true_eq] at h1
          simp only [VRL] at hx
          obtain ⟨_, _, hxs, q1, _, _, rfl, q2, rfl⟩ := hx
          obtain ⟨b1, rfl, rfl⟩ := sstr_VR hs q1
          simp only [VR] at q2
          obtain ⟨b2, rfl, rfl⟩ := q2
          exact (key b1 b2 hb h1 (arr2 hxs)).mono fun e w' ⟨v', q1, q2, q3⟩ => ⟨v', q1, by simp only [VR]; exact q2, q3⟩
      · cases hg
    · cases hg
  · intro args v hg ι w xs _ _ hx
    have key : ∀ (b1 b2 : ByteArray) (c : UInt8), b2.data.toList = [c] → xs = #[.string b1, .string b2] →
        Calls prog 86 xs w fun e w' => ∃ v', e = .returned v' ∧ v' = .int .i64 (Lib.indexByte b1.data.toList c) ∧ Quiet w w' := fun b1 b2 c hc e1 => by
      subst e1
      obtain ⟨⟨l2⟩⟩ := b2
      simp only at hc
      subst hc
      refine (Tryz.strings_Index_one b1 c w).mono fun e w' ⟨h1, h2⟩ => ?_
      subst h1 h2
      exact ⟨_, rfl, rfl, Quiet.refl _⟩
    unfold gIndex at hg
    split at hg
    · rename_i s c
      cases hg
      simp only [VRL, VR] at hx
      obtain ⟨_, _, hxs, ⟨b1, rfl, rfl⟩, _, _, rfl, ⟨b2, h2, rfl⟩, rfl⟩ := hx
      exact (key b1 b2 c h2 (arr2 hxs)).mono fun e w' ⟨v', q1, q2, q3⟩ => ⟨v', q1, by simp only [VR]; exact q2, q3⟩
    · rename_i x c _
      split at hg
      · rename_i s hs
        cases hg
        simp only [VRL] at hx
        obtain ⟨_, _, hxs, q1, _, _, rfl, q2, rfl⟩ := hx
        obtain ⟨b1, rfl, rfl⟩ := sstr_VR hs q1
        simp only [VR] at q2
        obtain ⟨b2, h2, rfl⟩ := q2
        exact (key b1 b2 c h2 (arr2 hxs)).mono fun e w' ⟨v', q1, q2, q3⟩ => ⟨v', q1, by simp only [VR]; exact q2, q3⟩
      · cases hg
    · cases hg
  · intro args v hg ι w xs _ _ hx
    have key : ∀ (b1 : ByteArray) (n : Int), b1.data.toList.length ≤ 18 → Lib.atoi b1.data.toList = some n → xs = #[.string b1] →
        Calls prog 145 xs w fun e w' => ∃ v', e = .returned v' ∧ v' = .tuple #[.int .i64 n, .nilIface] ∧ Quiet w w' := fun b1 n h1 h2 e1 => by
      subst e1
      have hl1 : b1.data.toList.length = b1.size := by simp
      refine (Tryz.strconv_Atoi b1 n (by omega) h2 w).mono fun e w' ⟨h1', t, h2'⟩ => ?_
      subst h1' h2'
      have hb := Go.Joins.below_bytesWorld w.heap.size w 5 t (Nat.le_refl _)
      exact ⟨_, rfl, rfl, ⟨hb.size, hb.block, hb.tape, hb.os, hb.output⟩⟩
    unfold gAtoi at hg
    split at hg
    · rename_i s
      split at hg
      · rename_i n hn
        cases hb : decide (s.length ≤ 18) with
        | false => rw [hb] at hg; cases hg
        | true =>
          rw [hb] at hg
          cases hg
          simp only [VRL, VR] at hx
          obtain ⟨_, _, hxs, ⟨b1, rfl, rfl⟩, rfl⟩ := hx
          refine (key b1 n (of_decide_eq_true hb) hn (arr1 hxs)).mono fun e w' ⟨v', q1, q2, q3⟩ => ⟨v', q1, ?_, q3⟩
          subst q2
          simp only [VR, VRL]
          exact ⟨_, rfl, _, _, rfl, rfl, _, _, rfl, rfl, rfl⟩
      · cases hg
    · rename_i x _
      split at hg
      · rename_i s hs
        obtain ⟨h1, h2⟩ := Tr.br_get0 hg
        cases h2
        simp only [Bool.and_eq_true, decide_eq_true_eq] at h1
        simp only [VRL] at hx
        obtain ⟨_, _, hxs, q1, rfl⟩ := hx
        obtain ⟨b1, rfl, rfl⟩ := sstr_VR hs q1
        obtain ⟨n, hn⟩ := Option.isSome_iff_exists.1 h1.2
        refine (key b1 n h1.1 hn (arr1 hxs)).mono fun e w' ⟨v', q1, q2, q3⟩ => ⟨v', q1, ?_, q3⟩
        subst q2
        rw [hn]
        simp only [VR, VRL]
        exact ⟨_, rfl, _, _, rfl, rfl, _, _, rfl, rfl, rfl⟩
      · cases hg
    · cases hg
end Go.Proofs.Tryz
