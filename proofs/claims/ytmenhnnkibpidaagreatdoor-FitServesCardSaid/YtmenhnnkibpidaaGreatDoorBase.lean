/- The fits' program: what the library's functions give, as known functions of the evaluator. -/
import Derived.Test.YtmenhnnkibpidaaGreatDoorAdPrim
import Derived.Test.YtmenhnnkibpidaaGreatDoorShelf
import Derived.Lib.LaidTab
import Derived.Lib.ItoaNum
import Derived.KernelRfl

namespace Go.Proofs.Tryz
open Go.Ad

theorem hmix : prog.follows .mixedOrders = true := by kernel_rfl
theorem hnum : NoNum prog := by
  have h : (prog.funcs.all fun fn => decide (fn.name ≠ "runtime.NumGoroutine")) = true := by kernel_rfl
  intro f fn hf
  exact of_decide_eq_true (Array.all_eq_true_iff_forall_mem.1 h fn (Array.mem_of_getElem? hf))
theorem started : decide (prog.globals.size < (begin prog (fun _ _ => 0) default).world.heap.size) = true := by kernel_rfl

def gIndexByte : List AV → Option AV
  | [.str s, .int .u8 c] => some (.int .i64 (Lib.indexByte s c.toNat.toUInt8))
  | _ => none

def gUpper : List AV → Option AV
  | [.str s] => if decide (s.length ≤ 100) && s.all (fun b => decide (b.toNat < 128)) then some (.str (Lib.toUpperA s)) else none
  | _ => none

def gCompare : List AV → Option AV
  | [.str a, .str b] => some (.int .i64 (Lib.compareBytes a b))
  | _ => none

def gItoa : List AV → Option AV
  | [.int .i64 n] => if decide (-9223372036854775808 ≤ n) && decide (n ≤ 9223372036854775807) then some (.str (Lib.itoa n)) else none
  | [.rng .i64 n lo hi] => if decide (-9223372036854775808 ≤ lo) && decide (hi ≤ 9223372036854775807) then some (.sstr (Lib.itoa n)) else none
  | _ => none

/-- The library's table of the powers of ten is in the world. -/
def Tab (A : Amb) : Prop := ∀ w : World, (∀ c, c < A.G → w.heap[c]? = A.base c) → Lib.TabIs prog w "internal/strconv.uint64pow10" .u64 Lib.pow10Tab

theorem tab_of {W : World} (hG : prog.globals.size ≤ W.heap.size) (h : Lib.TabIs prog W "internal/strconv.uint64pow10" .u64 Lib.pow10Tab) : Tab (ambOf W) := fun w hw => by
  have hg : prog.globalNamed "internal/strconv.uint64pow10" = some 6 := by kernel_rfl
  have h6 : 6 < W.heap.size := Nat.lt_of_lt_of_le (by rw [show prog.globals.size = 9 by kernel_rfl]; omega) hG
  unfold Lib.TabIs World.var? at h ⊢
  rw [hg] at h ⊢
  simp only [Option.bind_some] at h ⊢
  rw [hw 6 h6]; exact h

theorem laidVars_tail {P : Program} {W : World} {x : String × DataW Unit} {r : List (String × DataW Unit)} (h : laidMet P (x :: r) W) : laidMet P r W := by
  obtain ⟨ps, ⟨g, t, cs, fuel, p, q, h1, h2, h3, h4, h5, rfl⟩, hn, hc⟩ := h
  exact ⟨q, h5, (List.nodup_append.1 hn).2.1, fun b off hm => hc b off (List.mem_append_right _ hm)⟩

theorem tab_laid {W : World} {a b : String × DataW Unit} {r : List (String × DataW Unit)} (h : laidMet prog (a :: b :: ("internal/strconv.uint64pow10", Lib.tabData .u64 Lib.pow10Tab) :: r) W) :
    Lib.TabIs prog W "internal/strconv.uint64pow10" .u64 Lib.pow10Tab :=
  Lib.tabIs_of_head (g := 6) (t := 277) (e := 227) (n := 20) (by kernel_rfl) (by kernel_rfl) (by kernel_rfl) (by kernel_rfl) (by kernel_rfl) (by kernel_rfl) (laidVars_tail (laidVars_tail h))

theorem grow_quiet (w : World) (k : Nat) (os : Array Obj) : Quiet w (Go.Sort.grow (w.drewN k) os) :=
  ⟨by simp [Go.Sort.grow, World.drewN], fun c hc => by simp [Go.Sort.grow, World.drewN, Array.getElem?_append, hc], rfl, rfl, rfl⟩

def lib : Prims := ((((noPrims.add 130 gIndexByte).add 70 gUpper).add 223 gCompare).add 104 gItoa).addx 142 gSame

theorem lib_ok {A : Amb} (hT : Tab A) : PrimOK prog A lib := by
  refine PrimOK.noEscape (fn := f142) (PrimOK.lib (PrimOK.lib (PrimOK.lib (PrimOK.lib PrimOK.none func130 (by kernel_rfl) ?_) func70 (by kernel_rfl) ?_) func223 (by kernel_rfl) ?_) func104 (by kernel_rfl) ?_) func142 (by kernel_rfl) (by kernel_rfl) (by rfl) (by rfl)
  · intro args v hg ι w xs _ _ hx
    unfold gIndexByte at hg
    split at hg
    · rename_i s c
      cases hg
      simp only [VRL, VR] at hx
      obtain ⟨_, _, hxs, ⟨b1, rfl, rfl⟩, _, _, rfl, rfl, rfl⟩ := hx
      have e1 : xs = #[.string b1, .int .u8 c] := by apply Array.ext'; simpa using hxs
      subst e1
      refine (stringslite_IndexByte b1 c w).mono fun e w' ⟨h1, h2⟩ => ?_
      subst h1 h2
      exact ⟨_, rfl, by simp only [VR], Quiet.refl _⟩
    · cases hg
  · intro args v hg ι w xs _ _ hx
    unfold gUpper at hg
    split at hg
    · rename_i s
      split at hg
      · rename_i hc
        cases hg
        simp only [Bool.and_eq_true, decide_eq_true_eq, List.all_eq_true] at hc
        simp only [VRL, VR] at hx
        obtain ⟨_, _, hxs, ⟨b1, rfl, rfl⟩, rfl⟩ := hx
        have e1 : xs = #[.string b1] := by apply Array.ext'; simpa using hxs
        subst e1
        have hlen : b1.data.toList.length = b1.size := by simp
        refine (strings_ToUpper_ascii b1 w (by omega) (fun j b hb => hc.2 b (List.mem_of_getElem? hb))).mono fun e w' ⟨h1, h2⟩ => ?_
        subst h1
        refine ⟨_, rfl, ?_, ⟨h2.size, h2.block, h2.tape, h2.os, h2.output⟩⟩
        simp only [VR]
        exact ⟨_, rfl, rfl⟩
      · cases hg
    · cases hg
  · intro args v hg ι w xs _ _ hx
    unfold gCompare at hg
    split at hg
    · rename_i s c
      cases hg
      simp only [VRL, VR] at hx
      obtain ⟨_, _, hxs, ⟨b1, rfl, rfl⟩, _, _, rfl, ⟨b2, rfl, rfl⟩, rfl⟩ := hx
      have e1 : xs = #[.string b1, .string b2] := by apply Array.ext'; simpa using hxs
      subst e1
      refine (strings_Compare b1 b2 w).mono fun e w' ⟨h1, h2⟩ => ?_
      subst h1 h2
      exact ⟨_, rfl, by simp only [VR], Quiet.refl _⟩
    · cases hg
  · intro args v hg ι w xs hamb _ hx
    unfold gItoa at hg
    split at hg
    · rename_i n
      split at hg
      · rename_i hc
        cases hg
        simp only [Bool.and_eq_true, decide_eq_true_eq] at hc
        simp only [VRL, VR] at hx
        obtain ⟨_, _, hxs, rfl, rfl⟩ := hx
        have e1 : xs = #[.int .i64 n] := by apply Array.ext'; simpa using hxs
        subst e1
        refine (internal_strconv_Itoa n hc.1 hc.2 w (hT w hamb)).mono fun e w' ⟨h1, k, os, h2⟩ => ?_
        subst h1 h2
        exact ⟨_, rfl, by simp only [VR]; exact ⟨_, rfl, rfl⟩, grow_quiet _ _ _⟩
      · cases hg
    · rename_i n lo hi
      split at hg
      · rename_i hc
        cases hg
        simp only [Bool.and_eq_true, decide_eq_true_eq] at hc
        simp only [VRL, VR] at hx
        obtain ⟨_, _, hxs, ⟨rfl, h1, h2⟩, rfl⟩ := hx
        have e1 : xs = #[.int .i64 n] := by apply Array.ext'; simpa using hxs
        subst e1
        refine (internal_strconv_Itoa n (Int.le_trans hc.1 h1) (Int.le_trans h2 hc.2) w (hT w hamb)).mono fun e w' ⟨h1, k, os, h2⟩ => ?_
        subst h1 h2
        exact ⟨_, rfl, by simp only [VR]; exact ⟨_, rfl, rfl⟩, grow_quiet _ _ _⟩
      · cases hg
    · cases hg

end Go.Proofs.Tryz
