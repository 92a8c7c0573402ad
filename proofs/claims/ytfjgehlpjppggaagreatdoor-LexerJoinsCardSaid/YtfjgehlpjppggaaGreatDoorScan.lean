/- The lexer's program: its loops over bytes. -/
import Derived.Test.YtfjgehlpjppggaaGreatDoorByte
import Derived.Test.YtfjgehlpjppggaaGreatDoorAdPat

namespace Go.Proofs.Tryz
open Go.Ad

def dr (n : Nat) : List Pt := List.replicate n .drop
def dd8 : List OP := List.replicate 8 .dead
abbrev W (n : Int) : Int := IntKind.i64.wrap n
/-- What a loop over the bytes of a text asks: the text is not longer than any. -/
def szOK (s : List UInt8) : Bool := decide (s.length < 2 ^ 62)

noncomputable def code43 : Code := f43.body.getD .skip
noncomputable def code46 : Code := f46.body.getD .skip
noncomputable def code162 : Code := f162.body.getD .skip
noncomputable def body43 : Code := unLoop (findB 0 code43)
noncomputable def body46 : Code := unLoop (findB 0 code46)
noncomputable def body162 : Code := unLoop (findB 0 code162)

/-! The reference's words. -/
def spW : SP := ⟨[.str, .drop, .drop, .int .i64] ++ dr 29, dd8⟩
abbrev bI (s : List UInt8) (i : Int) : Int := ((s.getD i.toNat 0).toNat : Int)
theorem round43 (s : List UInt8) (i : Int) : execK prog (runK prog pB 60) noBps body43 (spW.rho [.s s, .i i]) (spW.heap [.s s, .i i]) (nrmP (fun _ => spW) 8 []) =
    brK (decide (i < (s.length : Int))) (brK (decide (0 ≤ i ∧ i < (s.length : Int))) (brK (letB (bI s i)) (some (.normal, [.s s, .i (W (i + 1))]))
      (brK (decide (i > 0)) (brK (decide (0 ≤ i ∧ i < (s.length : Int))) (brK (digB (bI s i)) (some (.normal, [.s s, .i (W (i + 1))]))
        (brK (decide (0 ≤ i ∧ i < (s.length : Int))) (brK (bI s i == 95) (some (.normal, [.s s, .i (W (i + 1))])) (some (.exit 0, [.s s, .i i]))) none)) none)
        (some (.exit 0, [.s s, .i i])))) none) (some (.exit 0, [.s s, .i i])) := by kernel_rfl

def pWd (s : List UInt8) (n : Nat) : Bool := letB (bAt s n) || (decide (0 < n) && (digB (bAt s n) || bAt s n == 95))
def wordlyN (s : List UInt8) : Nat := scanN (pWd s) s.length 0

theorem step43 (s : List UInt8) (n : Nat) (hs : s.length < 2 ^ 62) (hn : n ≤ s.length) : execK prog (runK prog pB 60) noBps body43 (spW.rho [.s s, .i n]) (spW.heap [.s s, .i n]) (nrmP (fun _ => spW) 8 []) =
    if n < s.length ∧ pWd s n = true then some (.normal, [.s s, .i ((n + 1 : Nat) : Int)]) else some (.exit 0, [.s s, .i n]) := by
  rw [round43]
  have e1 : W ((n : Int) + 1) = ((n + 1 : Nat) : Int) := by rw [W, wrap64 (by omega) (by omega)]; omega
  have e2 : bI s (n : Int) = bAt s n := by simp [bI, bAt]
  rw [e1, e2]
  unfold pWd
  by_cases h : n < s.length
  · have h1 : decide ((n : Int) < (s.length : Int)) = true := decide_eq_true (by omega)
    have h2 : decide (0 ≤ (n : Int) ∧ (n : Int) < (s.length : Int)) = true := decide_eq_true (by omega)
    rw [h1, h2]
    cases letB (bAt s n) <;> cases digB (bAt s n) <;> cases (bAt s n == 95) <;> by_cases h0 : 0 < n <;> simp [brK, h, h0]
  · have h1 : decide ((n : Int) < (s.length : Int)) = false := decide_eq_false (by omega)
    rw [h1]
    simp [brK, h]

def hook43 : Blk := hookP spW 8 [] fun
  | [.s s, .i i] => .br (decide (i = 0) && szOK s) (.leaf (.normal, spW, [.s s, .i (wordlyN s)])) .fail
  | _ => .fail
def pW43 : Prims := pB.addb 43 0 hook43

section
variable {A : Amb} (hT : Tab A) (hG : prog.globals.size ≤ A.G)
include hT hG

theorem pW43_ok : PrimOK prog A pW43 := by
  refine PrimOK.addbP (pB_ok hT hG) func43 (show f43.body = some code43 by kernel_rfl) (body := .loop body43) (by kernel_rfl) (by kernel_rfl) fun ls e sq l h => ?_
  split at h
  · rename_i s i
    obtain ⟨hc, hv⟩ := Tr.br1 h
    cases hv
    simp only [Bool.and_eq_true, decide_eq_true_eq, szOK] at hc
    obtain ⟨rfl, hs⟩ := hc
    refine ⟨by simp [frP, spW, SP.heap, mkH, dd8, dr, mkT, OP.mk, List.replicate], fun Bb hB => SEB.block_exit (id := 0) ?_⟩
    have key := SEB.scan (A := A) (B0 := Bb) (c := body43) (S := fun n => ⟨spW.rho [.s s, .i n], spW.heap [.s s, .i n], []⟩) (E := fun n => ⟨spW.rho [.s s, .i n], spW.heap [.s s, .i n], []⟩) (e := fun _ => .exit 0) (p := pWd s) (N := s.length)
      (fun _ => by simp) (fun n hn hp => SEB.of_KP (e := .normal) hmix hnum (pB_ok hT hG) (.none _) hB (by rw [step43 s n hs (by omega), if_pos ⟨hn, hp⟩]) rfl)
      (fun n hn hp => SEB.of_KP (e := .exit 0) hmix hnum (pB_ok hT hG) (.none _) hB (by rw [step43 s n hs hn, if_neg (fun h => by rw [hp h.1] at h; exact absurd h.2 (by simp))]) rfl) 0 (Nat.zero_le _)
    exact key
  · cases h
end

/-! The reference's digits. -/
def spD : SP := ⟨[.str, .int .i64, .drop, .drop, .drop, .int .i64] ++ dr 17, dd8⟩
theorem round46 (s : List UInt8) (a i : Int) : execK prog (runK prog pB 60) noBps body46 (spD.rho [.s s, .i a, .i i]) (spD.heap [.s s, .i a, .i i]) (nrmP (fun _ => spD) 8 []) =
    brK (decide (W (a + i) < (s.length : Int))) (brK (decide (0 ≤ W (a + i) ∧ W (a + i) < (s.length : Int))) (brK (digB (bI s (W (a + i)))) (some (.normal, [.s s, .i a, .i (W (i + 1))]))
      (some (.exit 0, [.s s, .i a, .i i]))) none) (some (.exit 0, [.s s, .i a, .i i])) := by kernel_rfl

def pDg (s : List UInt8) (a n : Nat) : Bool := digB (bAt s (a + n))
def digitsN (s : List UInt8) (a : Nat) : Nat := scanN (pDg s a) (s.length - a) 0

theorem step46 (s : List UInt8) (a n : Nat) (hs : s.length < 2 ^ 62) (ha : a ≤ s.length) (hn : n ≤ s.length - a) : execK prog (runK prog pB 60) noBps body46 (spD.rho [.s s, .i a, .i n]) (spD.heap [.s s, .i a, .i n]) (nrmP (fun _ => spD) 8 []) =
    if n < s.length - a ∧ pDg s a n = true then some (.normal, [.s s, .i a, .i ((n + 1 : Nat) : Int)]) else some (.exit 0, [.s s, .i a, .i n]) := by
  rw [round46]
  have e1 : W ((n : Int) + 1) = ((n + 1 : Nat) : Int) := by rw [W, wrap64 (by omega) (by omega)]; omega
  have e0 : W ((a : Int) + n) = ((a + n : Nat) : Int) := by rw [W, wrap64 (by omega) (by omega)]; omega
  rw [e1, e0]
  have e2 : bI s ((a + n : Nat) : Int) = bAt s (a + n) := by simp only [bI, bAt, Int.toNat_natCast]
  rw [e2]
  unfold pDg
  by_cases h : n < s.length - a
  · have h1 : decide (((a + n : Nat) : Int) < (s.length : Int)) = true := decide_eq_true (by omega)
    have h2 : decide (0 ≤ ((a + n : Nat) : Int) ∧ ((a + n : Nat) : Int) < (s.length : Int)) = true := decide_eq_true (by omega)
    rw [h1, h2]
    cases digB (bAt s (a + n)) <;> simp [brK, h]
  · have h1 : decide (((a + n : Nat) : Int) < (s.length : Int)) = false := decide_eq_false (by omega)
    rw [h1]
    simp [brK, h]

def hook46 : Blk := hookP spD 8 [] fun
  | [.s s, .i a, .i i] => .br (decide (i = 0 ∧ 0 ≤ a ∧ a ≤ (s.length : Int)) && szOK s) (.leaf (.normal, spD, [.s s, .i a, .i (digitsN s a.toNat)])) .fail
  | _ => .fail
def pW46 : Prims := pB.addb 46 0 hook46

/-! The program's runs of bytes of some classes. -/
def h162 (cs : List Int) : List OP := dd8 ++ [.cells (cs.map fun c => .is (.int .i64 c)) 1 true 3, .cells [.int .i64] 0 true 3, .cells [.str] 0 true 9, .cells [.is (.slice (some (8, 0)) cs.length cs.length)] 0 true 159, .any]
def sp162 (cs : List Int) : SP := ⟨[.is (.func (.yield 12) [] []), .is (.ptr (some (10, 0))), .is (.ptr (some (11, 0))), .drop, .drop, .str, .int .i64, .int .i64] ++ dr 18, h162 cs⟩
def sp162r (cs : List Int) : SP := ⟨dr 26, h162 cs⟩
def leaf162 (s : List UInt8) (i : Int) (lo : AObj) : List Lf := [.s s, .i s.length, .i i, .i i, .s s, .o lo]
noncomputable def lp162 (cs : List Int) (s : List UInt8) : AObj :=
  match f89.body with
  | some (.seq _ (.seq _ (.seq (.seq _ (.block _ (.rangeFunc _ ps a b))) _))) => .loop ⟨.ready, none, [.sstr s, .slice (some (8, 0)) cs.length cs.length, .tuple [], .tuple [], .int .i64 0, .ptr (some (9, 0)), .sstr s, .slice (some (8, 0)) cs.length cs.length, .func (.func 162) [] [.ptr (some (10, 0)), .ptr (some (11, 0))], .tuple [], .tuple [], .tuple [], .tuple []], ps, a, b⟩
  | _ => .dead
def spx (cs : List Int) : AEx → SP
  | .normal => sp162 cs
  | _ => sp162r cs
noncomputable abbrev run162 (cs : List Int) (s : List UInt8) (i : Int) := execK prog (runK prog pB 60) noBps body162 ((sp162 cs).rho (leaf162 s i (lp162 cs s))) ((sp162 cs).heap (leaf162 s i (lp162 cs s))) (nrmP (spx cs) 13 [9, 10, 11, 12])

theorem round162a (s : List UInt8) (i : Int) : run162 [1, 2, 3] s i =
    brK (decide (i < (s.length : Int))) (brK (decide (0 ≤ i ∧ i < (s.length : Int)))
      (brK (clsI (bI s i) == 1) (brK (decide (0 ≤ i ∧ i < (s.length : Int))) (some (.normal, leaf162 s (W (i + 1)) (lp162 [1, 2, 3] s))) none)
      (brK (clsI (bI s i) == 2) (brK (decide (0 ≤ i ∧ i < (s.length : Int))) (some (.normal, leaf162 s (W (i + 1)) (lp162 [1, 2, 3] s))) none)
      (brK (clsI (bI s i) == 3) (brK (decide (0 ≤ i ∧ i < (s.length : Int))) (some (.normal, leaf162 s (W (i + 1)) (lp162 [1, 2, 3] s))) none)
        (some (.ret, [.i i, .s s, .o (lp162 [1, 2, 3] s)]))))) none) (some (.exit 0, [.i i, .s s, .o (lp162 [1, 2, 3] s)])) := by kernel_rfl
theorem round162b (s : List UInt8) (i : Int) : run162 [2] s i =
    brK (decide (i < (s.length : Int))) (brK (decide (0 ≤ i ∧ i < (s.length : Int)))
      (brK (clsI (bI s i) == 2) (brK (decide (0 ≤ i ∧ i < (s.length : Int))) (some (.normal, leaf162 s (W (i + 1)) (lp162 [2] s))) none)
        (some (.ret, [.i i, .s s, .o (lp162 [2] s)]))) none) (some (.exit 0, [.i i, .s s, .o (lp162 [2] s)])) := by kernel_rfl

def pCl (cs : List Int) (s : List UInt8) (n : Nat) : Bool := cs.any fun k => clsI (bAt s n) == k
def lenC (cs : List Int) (s : List UInt8) : Nat := scanN (pCl cs s) s.length 0

noncomputable def out162 (cs : List Int) (s : List UInt8) (n : Nat) : AEx × List Lf := (if n < s.length then .ret else .exit 0, [.i n, .s s, .o (lp162 cs s)])

theorem step162 (cs : List Int) (hcs : cs = [1, 2, 3] ∨ cs = [2]) (s : List UInt8) (n : Nat) (hs : s.length < 2 ^ 62) (hn : n ≤ s.length) : run162 cs s n =
    if n < s.length ∧ pCl cs s n = true then some (.normal, leaf162 s ((n + 1 : Nat) : Int) (lp162 cs s)) else some (out162 cs s n) := by
  have e1 : W ((n : Int) + 1) = ((n + 1 : Nat) : Int) := by rw [W, wrap64 (by omega) (by omega)]; omega
  have e2 : bI s (n : Int) = bAt s n := by simp [bI, bAt]
  unfold pCl out162
  rcases hcs with rfl | rfl
  · rw [round162a, e1, e2]
    by_cases h : n < s.length
    · have h1 : decide ((n : Int) < (s.length : Int)) = true := decide_eq_true (by omega)
      have h2 : decide (0 ≤ (n : Int) ∧ (n : Int) < (s.length : Int)) = true := decide_eq_true (by omega)
      rw [h1, h2]
      simp only [List.any_cons, List.any_nil]
      by_cases x1 : clsI (bAt s n) = 1 <;> by_cases x2 : clsI (bAt s n) = 2 <;> by_cases x3 : clsI (bAt s n) = 3 <;> simp [brK_ite, h, x1, x2, x3]
    · have h1 : decide ((n : Int) < (s.length : Int)) = false := decide_eq_false (by omega)
      rw [h1]
      simp [brK, h]
  · rw [round162b, e1, e2]
    by_cases h : n < s.length
    · have h1 : decide ((n : Int) < (s.length : Int)) = true := decide_eq_true (by omega)
      have h2 : decide (0 ≤ (n : Int) ∧ (n : Int) < (s.length : Int)) = true := decide_eq_true (by omega)
      rw [h1, h2]
      simp only [List.any_cons, List.any_nil]
      by_cases x2 : clsI (bAt s n) = 2 <;> simp [brK_ite, h, x2]
    · have h1 : decide ((n : Int) < (s.length : Int)) = false := decide_eq_false (by omega)
      rw [h1]
      simp [brK, h]

noncomputable def hook162 (cs : List Int) : Blk := hookP (sp162 cs) 13 [9, 10, 11, 12] fun
  | [.s s, .i l, .i i, .i n, .s s', .o lo] => .br (propB (l = s.length ∧ i = 0 ∧ n = 0 ∧ s' = s ∧ lo = lp162 cs s)) (.br (szOK s)
      (.br (decide (lenC cs s < s.length)) (.leaf (.ret, sp162r cs, [.i (lenC cs s), .s s, .o (lp162 cs s)])) (.leaf (.normal, sp162r cs, [.i (lenC cs s), .s s, .o (lp162 cs s)]))) .fail) .fail
  | _ => .fail
noncomputable def pW162 (cs : List Int) : Prims := pB.addb 162 0 (hook162 cs)

section
variable {A : Amb} (hT : Tab A) (hG : prog.globals.size ≤ A.G)
include hT hG

theorem pW46_ok : PrimOK prog A pW46 := by
  refine PrimOK.addbP (pB_ok hT hG) func46 (show f46.body = some code46 by kernel_rfl) (body := .loop body46) (by kernel_rfl) (by kernel_rfl) fun ls e sq l h => ?_
  split at h
  · rename_i s a i
    obtain ⟨hc, hv⟩ := Tr.br1 h
    cases hv
    simp only [Bool.and_eq_true, decide_eq_true_eq, szOK] at hc
    obtain ⟨⟨rfl, ha0, ha1⟩, hs⟩ := hc
    obtain ⟨a, rfl⟩ : ∃ k : Nat, a = (k : Int) := ⟨a.toNat, by omega⟩
    refine ⟨by simp [frP, spD, SP.heap, mkH, dd8, dr, mkT, OP.mk, List.replicate], fun Bb hB => SEB.block_exit (id := 0) ?_⟩
    rw [Int.toNat_natCast]
    have key := SEB.scan (A := A) (B0 := Bb) (c := body46) (S := fun n => ⟨spD.rho [.s s, .i a, .i n], spD.heap [.s s, .i a, .i n], []⟩) (E := fun n => ⟨spD.rho [.s s, .i a, .i n], spD.heap [.s s, .i a, .i n], []⟩) (e := fun _ => .exit 0) (p := pDg s a) (N := s.length - a)
      (fun _ => by simp) (fun n hn hp => SEB.of_KP (e := .normal) hmix hnum (pB_ok hT hG) (.none _) hB (by rw [step46 s a n hs (by omega) (by omega), if_pos ⟨hn, hp⟩]) rfl)
      (fun n hn hp => SEB.of_KP (e := .exit 0) hmix hnum (pB_ok hT hG) (.none _) hB (by rw [step46 s a n hs (by omega) hn, if_neg (fun h => by rw [hp h.1] at h; exact absurd h.2 (by simp))]) rfl) 0 (Nat.zero_le _)
    exact key
  · cases h

theorem pW162_ok (cs : List Int) (hcs : cs = [1, 2, 3] ∨ cs = [2]) : PrimOK prog A (pW162 cs) := by
  have hokD : ∀ e, okD 13 [9, 10, 11, 12] 0 (spx cs e).h = true := fun e => by rcases hcs with rfl | rfl <;> cases e <;> rfl
  refine PrimOK.addbP (pB_ok hT hG) func162 (show f162.body = some code162 by kernel_rfl) (body := .loop body162) (by kernel_rfl) (hokD .normal) fun ls e sq l h => ?_
  split at h
  · rename_i s l0 i n s' lo
    obtain ⟨hc, h1⟩ := Tr.br1 h
    obtain ⟨hs0, h2⟩ := Tr.br1 h1
    clear h h1
    obtain ⟨rfl, rfl, rfl, rfl, rfl⟩ := propB_eq hc
    have hs := of_decide_eq_true hs0
    have h := h2
    clear h2
    have key : ∀ Bb : Heap, Bb.length = 13 → _ := fun Bb hB => SEB.scan (A := A) (B0 := Bb) (c := body162) (S := fun n => ⟨(sp162 cs).rho (leaf162 s' n (lp162 cs s')), (sp162 cs).heap (leaf162 s' n (lp162 cs s')), [9, 10, 11, 12]⟩)
      (E := fun n => ⟨(sp162r cs).rho (out162 cs s' n).2, (sp162r cs).heap (out162 cs s' n).2, [9, 10, 11, 12]⟩) (e := fun n => (out162 cs s' n).1) (p := pCl cs s') (N := s'.length)
      (fun n => by unfold out162; simp only; split <;> simp) (fun n hn hp => SEB.of_KP (e := .normal) (sp := spx cs) hmix hnum (pB_ok hT hG) (.none _) hB (by rw [show execK _ _ _ _ _ _ _ = run162 cs s' n from rfl, step162 cs hcs s' n hs (by omega), if_pos ⟨hn, hp⟩]) (hokD _))
      (fun n hn hp => by
        have := SEB.of_KP (e := (out162 cs s' n).1) (sp := spx cs) hmix hnum (pB_ok hT hG) (.none _) hB (by rw [show execK _ _ _ _ _ _ _ = run162 cs s' n from rfl, step162 cs hcs s' n hs hn, if_neg (fun h => by rw [hp h.1] at h; exact absurd h.2 (by simp))]) (hokD _)
        have e1 : spx cs (out162 cs s' n).1 = sp162r cs := by unfold out162 spx; simp only; split <;> rename_i h <;> split at h <;> simp_all
        rw [e1] at this
        exact this) 0 (Nat.zero_le _)
    have hfr : frP [9, 10, 11, 12] 0 ((sp162 cs).heap (leaf162 s' 0 (lp162 cs s'))) ((sp162r cs).heap [.i (lenC cs s'), .s s', .o (lp162 cs s')]) := by
      rcases hcs with rfl | rfl <;> simp [frP, sp162, sp162r, h162, SP.heap, mkH, dd8, dr, mkT, OP.mk, List.replicate, Pt.mk, leaf162]
    cases hlt : decide (lenC cs s' < s'.length) with
    | true =>
      rw [hlt] at h
      simp only [Tr.get, Option.some.injEq, Prod.mk.injEq] at h
      obtain ⟨rfl, rfl, rfl⟩ := h
      refine ⟨hfr, fun Bb hB => SEB.block_other (id := 0) ?_ (by simp)⟩
      have := key Bb hB
      simp only [out162, Nat.sub_zero] at this
      rw [if_pos (show scanN (pCl cs s') s'.length 0 < s'.length from of_decide_eq_true hlt)] at this
      exact this
    | false =>
      rw [hlt] at h
      simp only [Tr.get, Option.some.injEq, Prod.mk.injEq] at h
      obtain ⟨rfl, rfl, rfl⟩ := h
      refine ⟨hfr, fun Bb hB => SEB.block_exit (id := 0) ?_⟩
      have := key Bb hB
      simp only [out162, Nat.sub_zero] at this
      rw [if_neg (show ¬ scanN (pCl cs s') s'.length 0 < s'.length from of_decide_eq_false hlt)] at this
      exact this
  · cases h
end

end Go.Proofs.Tryz
