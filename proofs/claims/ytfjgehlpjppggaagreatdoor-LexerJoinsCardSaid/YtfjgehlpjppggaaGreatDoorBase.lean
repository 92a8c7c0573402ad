/- The lexer's program: what the library's functions give, as known functions of the evaluator. -/
import Derived.Test.YtfjgehlpjppggaaGreatDoorAdPrim
import Derived.Test.YtfjgehlpjppggaaGreatDoorAdPat
import Derived.Test.YtfjgehlpjppggaaGreatDoorShelf
import Derived.Lib.LaidTab
import Derived.Lib.ItoaNum
import Derived.KernelRfl

namespace Go.Proofs.Tryz
open Go.Ad

theorem hmix : prog.follows .mixedOrders = true := by kernel_rfl
theorem hnum : NoNum prog := by
  have h : (prog.funcs.all fun fn => decide (fn.name ≠ "runtime.NumGoroutine")) = true := by kernel_rfl
  intro f fn hf
  exact of_decide_eq_true (Array.all_eq_true_iff_forall_mem.1 h fn (Array.mem_of_getElem? hf))
theorem started : decide (prog.globals.size < (begin prog (fun _ _ => 0) default).world.heap.size) = true := by kernel_rfl
theorem gsz : prog.globals.size = 8 := by kernel_rfl

def byteOf (c : Int) : UInt8 := c.toNat.toUInt8

def gIndexByte : List AV → Tr AV
  | [.str s, .int .u8 c] => .leaf (.int .i64 (Lib.indexByte s (byteOf c)))
  | [x, y] => match sstr? x, snum y with
    | some s, some (.u8, c) => .leaf (.sint .i64 (Lib.indexByte s (byteOf c)))
    | _, _ => .fail
  | _ => .fail

def gCompare : List AV → Option AV
  | [.str a, .str b] => some (.int .i64 (Lib.compareBytes a b))
  | [x, y] => match sstr? x, sstr? y with
    | some a, some b => some (.sint .i64 (Lib.compareBytes a b))
    | _, _ => none
  | _ => none

def gItoa : List AV → Tr AV
  | [.int .i64 n] => if decide (-9223372036854775808 ≤ n) && decide (n ≤ 9223372036854775807) then .leaf (.str (Lib.itoa n)) else .fail
  | [x] => match snum x with
    | some (.i64, n) => .br (decide (-9223372036854775808 ≤ n ∧ n ≤ 9223372036854775807)) (.leaf (.sstr (Lib.itoa n))) .fail
    | _ => .fail
  | _ => .fail

/-- The library's table of the powers of ten is in the world. -/
def Tab (A : Amb) : Prop := ∀ w : World, (∀ c, c < A.G → w.heap[c]? = A.base c) → Lib.TabIs prog w "internal/strconv.uint64pow10" .u64 Lib.pow10Tab

theorem tab_of {W : World} (hG : prog.globals.size ≤ W.heap.size) (h : Lib.TabIs prog W "internal/strconv.uint64pow10" .u64 Lib.pow10Tab) : Tab (ambOf W) := fun w hw => by
  have hg : prog.globalNamed "internal/strconv.uint64pow10" = some 5 := by kernel_rfl
  have h6 : 5 < W.heap.size := Nat.lt_of_lt_of_le (by rw [gsz]; omega) hG
  unfold Lib.TabIs World.var? at h ⊢
  rw [hg] at h ⊢
  simp only [Option.bind_some] at h ⊢
  rw [hw 5 h6]; exact h

theorem laidVars_tail {P : Program} {W : World} {x : String × DataW Unit} {r : List (String × DataW Unit)} (h : laidMet P (x :: r) W) : laidMet P r W := by
  obtain ⟨ps, ⟨g, t, cs, fuel, p, q, h1, h2, h3, h4, h5, rfl⟩, hn, hc⟩ := h
  exact ⟨q, h5, (List.nodup_append.1 hn).2.1, fun b off hm => hc b off (List.mem_append_right _ hm)⟩

theorem grow_quiet (w : World) (k : Nat) (os : Array Obj) : Quiet w (Go.Sort.grow (w.drewN k) os) :=
  ⟨by simp [Go.Sort.grow, World.drewN], fun c hc => by simp [Go.Sort.grow, World.drewN, Array.getElem?_append, hc], rfl, rfl, rfl⟩

def lib : Prims := (((noPrims.addt 133 gIndexByte).add 180 gCompare).addt 186 gItoa).addx 134 gSame

theorem arr1 {xs : Array Value} {a : Value} (h : xs.toList = [a]) : xs = #[a] := by apply Array.ext'; simpa using h
theorem arr2 {xs : Array Value} {a b : Value} (h : xs.toList = [a, b]) : xs = #[a, b] := by apply Array.ext'; simpa using h

theorem lib_ok {A : Amb} (hT : Tab A) : PrimOK prog A lib := by
  refine PrimOK.noEscape (fn := f134) (PrimOK.libt (PrimOK.lib (PrimOK.libt PrimOK.none func133 (by kernel_rfl) ?_) func180 (by kernel_rfl) ?_) func186 (by kernel_rfl) ?_) func134 (by kernel_rfl) (by kernel_rfl) (by rfl) (by rfl)
  · intro args v hg ι w xs _ _ hx
    have key : ∀ (b1 : ByteArray) (c : Int), xs = #[.string b1, .int .u8 c] → Calls prog 133 xs w fun e w' => ∃ v', e = .returned v' ∧ v' = .int .i64 (Lib.indexByte b1.data.toList (byteOf c)) ∧ Quiet w w' := fun b1 c e1 => by
      subst e1
      refine (stringslite_IndexByte b1 c w).mono fun e w' ⟨h1, h2⟩ => ?_
      subst h1 h2
      exact ⟨_, rfl, rfl, Quiet.refl _⟩
    unfold gIndexByte at hg
    split at hg
    · rename_i s c
      cases hg
      simp only [VRL, VR] at hx
      obtain ⟨_, _, hxs, ⟨b1, rfl, rfl⟩, _, _, rfl, rfl, rfl⟩ := hx
      exact (key b1 c (arr2 hxs)).mono fun e w' ⟨v', q1, q2, q3⟩ => ⟨v', q1, by simp only [VR]; exact q2, q3⟩
    · rename_i x y _
      split at hg
      · rename_i s c hs hc
        cases hg
        simp only [VRL] at hx
        obtain ⟨_, _, hxs, h1, _, _, rfl, h2, rfl⟩ := hx
        obtain ⟨b1, rfl, rfl⟩ := sstr_VR hs h1
        have h2 := snum_VR hc h2
        subst h2
        exact (key b1 c (arr2 hxs)).mono fun e w' ⟨v', q1, q2, q3⟩ => ⟨v', q1, by simp only [VR]; exact q2, q3⟩
      · cases hg
    · cases hg
  · intro args v hg ι w xs _ _ hx
    have key : ∀ (b1 b2 : ByteArray), xs = #[.string b1, .string b2] → Calls prog 180 xs w fun e w' => ∃ v', e = .returned v' ∧ v' = .int .i64 (Lib.compareBytes b1.data.toList b2.data.toList) ∧ Quiet w w' := fun b1 b2 e1 => by
      subst e1
      refine (strings_Compare b1 b2 w).mono fun e w' ⟨h1, h2⟩ => ?_
      subst h1 h2
      exact ⟨_, rfl, rfl, Quiet.refl _⟩
    unfold gCompare at hg
    split at hg
    · rename_i s c
      cases hg
      simp only [VRL, VR] at hx
      obtain ⟨_, _, hxs, ⟨b1, rfl, rfl⟩, _, _, rfl, ⟨b2, rfl, rfl⟩, rfl⟩ := hx
      exact (key b1 b2 (arr2 hxs)).mono fun e w' ⟨v', q1, q2, q3⟩ => ⟨v', q1, by simp only [VR]; exact q2, q3⟩
    · rename_i x y _
      split at hg
      · rename_i s c hs hc
        cases hg
        simp only [VRL] at hx
        obtain ⟨_, _, hxs, h1, _, _, rfl, h2, rfl⟩ := hx
        obtain ⟨b1, rfl, rfl⟩ := sstr_VR hs h1
        obtain ⟨b2, rfl, rfl⟩ := sstr_VR hc h2
        exact (key b1 b2 (arr2 hxs)).mono fun e w' ⟨v', q1, q2, q3⟩ => ⟨v', q1, by simp only [VR]; exact q2, q3⟩
      · cases hg
    · cases hg
  · intro args v hg ι w xs hamb _ hx
    have key : ∀ n : Int, -9223372036854775808 ≤ n → n ≤ 9223372036854775807 → xs = #[.int .i64 n] → Calls prog 186 xs w fun e w' => ∃ v', e = .returned v' ∧ (∃ b : ByteArray, b.data.toList = Lib.itoa n ∧ v' = .string b) ∧ Quiet w w' := fun n h0 h1 e1 => by
      subst e1
      refine (internal_strconv_Itoa n h0 h1 w (hT w hamb)).mono fun e w' ⟨h1, k, os, h2⟩ => ?_
      subst h1 h2
      exact ⟨_, rfl, ⟨_, rfl, rfl⟩, grow_quiet _ _ _⟩
    unfold gItoa at hg
    split at hg
    · rename_i n
      split at hg
      · rename_i hc
        cases hg
        simp only [Bool.and_eq_true, decide_eq_true_eq] at hc
        simp only [VRL, VR] at hx
        obtain ⟨_, _, hxs, rfl, rfl⟩ := hx
        exact (key n hc.1 hc.2 (arr1 hxs)).mono fun e w' ⟨v', q1, q2, q3⟩ => ⟨v', q1, by simp only [VR]; exact q2, q3⟩
      · cases hg
    · rename_i x _
      split at hg
      · rename_i n hn
        obtain ⟨hc, hv⟩ := Tr.br_get0 hg
        cases hv
        have hc := of_decide_eq_true hc
        simp only [VRL] at hx
        obtain ⟨_, _, hxs, h1, rfl⟩ := hx
        have h1 := snum_VR hn h1
        subst h1
        exact (key n hc.1 hc.2 (arr1 hxs)).mono fun e w' ⟨v', q1, q2, q3⟩ => ⟨v', q1, by simp only [VR]; exact q2, q3⟩
      · cases hg
    · cases hg

end Go.Proofs.Tryz
