/- The lexer's program: the reference's Same. -/
import Derived.Test.YtfjgehlpjppggaaGreatDoorRef
import Derived.Test.YtfjgehlpjppggaaGreatDoorAwake2

namespace Go.Proofs.Tryz
open Go.Ad

noncomputable def code20 : Code := f20.body.getD .skip
noncomputable def body20 : Code := unLoop (findB 0 code20)
def spQ : SP := ⟨[.list 8, .list 9, .drop, .drop, .drop, .int .i64] ++ dr 20, dd8 ++ [.vec 3 52, .vec 3 52]⟩
def spQr : SP := ⟨[.drop, .drop, .drop, .drop, .bool] ++ dr 21, dd8 ++ [.vec 3 52, .vec 3 52]⟩
def spQx : AEx → SP
  | .ret => spQr
  | _ => spQ
def lfQ (n m : Nat) (i : Int) (f g : Nat → List AV) : List Lf := [.n n, .n m, .i i, .n n, .r f, .n m, .r g]
def sameT (t u : Tok) : Bool := t.1 == u.1 && (t.2.1 == u.2.1 && (t.2.2 == u.2.2 && true))
def treeQ (n m : Nat) (i : Int) (t u : Tok) (f g : Nat → List AV) : Option (AEx × List Lf) :=
  brK (decide (i < (n : Int))) (brK (decide (0 ≤ i ∧ i < (n : Int))) (brK (decide (0 + i.toNat < n)) (brK (decide (0 ≤ i ∧ i < (m : Int))) (brK (decide (0 + i.toNat < m)) (brK (!(sameT t u))
    (some (.ret, [.b false, .n n, .r f, .n m, .r g])) (some (.normal, lfQ n m (W (i + 1)) f g))) none) none) none) none)
    (some (.exit 0, lfQ n m i f g))
theorem round20 (n m : Nat) (i : Int) (r q : Nat → Tok) : execK prog (runK prog pJ 60) noBps body20 (spQ.rho (lfQ n m i (fun i => rowT (r i)) (fun i => rowT (q i)))) (spQ.heap (lfQ n m i (fun i => rowT (r i)) (fun i => rowT (q i)))) (nrmP spQx 10 []) =
    treeQ n m i (r (0 + i.toNat)) (q (0 + i.toNat)) (fun i => rowT (r i)) (fun i => rowT (q i)) := by kernel_rfl
theorem sameT_eq (t u : Tok) : sameT t u = decide (t = u) := by
  obtain ⟨a, b, c⟩ := t
  obtain ⟨a', b', c'⟩ := u
  by_cases h : (a, b, c) = (a', b', c')
  · cases h; simp [sameT]
  · rw [decide_eq_false h]
    cases hs : sameT (a, b, c) (a', b', c') with
    | false => rfl
    | true =>
      simp only [sameT, Bool.and_true, Bool.and_eq_true, beq_iff_eq] at hs
      exact absurd (by rw [hs.1, hs.2.1, hs.2.2]) h

theorem treeQ_eq {n i : Nat} {t u : Tok} {f g : Nat → List AV} (hi : i < n) (hn : n ≤ 5000) : treeQ n n i t u f g = some (bif decide (t = u) then (.normal, lfQ n n ((i + 1 : Nat) : Int) f g) else (.ret, [.b false, .n n, .r f, .n n, .r g])) := by
  unfold treeQ
  have e2 : W ((i : Int) + 1) = ((i + 1 : Nat) : Int) := by rw [W, wrap64 (by omega) (by omega)]; omega
  rw [e2, sameT_eq, Int.toNat_natCast, decide_eq_true (show (i : Int) < n by omega), decide_eq_true (show 0 ≤ (i : Int) ∧ (i : Int) < n by omega), decide_eq_true (show 0 + i < n by omega)]
  cases decide (t = u) <;> rfl

def outQ (L M : List Tok) : AEx × St :=
  bif decide (L = M) then (.exit 0, ⟨spQ.rho (lfQ L.length L.length L.length (rowsT L) (rowsT M)), spQ.heap (lfQ L.length L.length L.length (rowsT L) (rowsT M)), []⟩)
  else (.ret, ⟨spQr.rho [.b false, .n L.length, .r (rowsT L), .n L.length, .r (rowsT M)], spQr.heap [.b false, .n L.length, .r (rowsT L), .n L.length, .r (rowsT M)], []⟩)

section
variable {A : Amb} (hT : Tab A) (hG : prog.globals.size ≤ A.G)
include hT hG

theorem loopQ (L M : List Tok) (hL : L.length ≤ 4097) (hM : M.length = L.length) {Bb : Heap} (hB : Bb.length = 10) :
    SEB prog A Bb (.loop body20) ⟨spQ.rho (lfQ L.length L.length 0 (rowsT L) (rowsT M)), spQ.heap (lfQ L.length L.length 0 (rowsT L) (rowsT M)), []⟩ (outQ L M).1 (outQ L M).2 := by
  have hp := pJ_ok hT hG
  have hok : ∀ e, okD 10 [] 0 (spQx e).h = true := fun e => by cases e <;> rfl
  refine SEB.while (fun i : Nat => i ≤ L.length ∧ decide (L.drop i = M.drop i) = decide (L = M)) (fun i => L.length - i) (fun i => ⟨spQ.rho (lfQ L.length L.length i (rowsT L) (rowsT M)), spQ.heap (lfQ L.length L.length i (rowsT L) (rowsT M)), []⟩) (fun _ => outQ L M) (fun i hx => ?_) 0 ⟨Nat.zero_le _, rfl⟩
  obtain ⟨h1, h3⟩ := hx
  have hk := round20 L.length L.length i (fun i => L.getD i tok0) (fun i => M.getD i tok0)
  rw [Int.toNat_natCast, Nat.zero_add] at hk
  by_cases hi : i < L.length
  · obtain ⟨t, L', hd, ht, hL', _, _⟩ := drop_tok hi
    obtain ⟨u, M', hd2, hu, hM', _, _⟩ := drop_tok (L := M) (i := i) (by omega)
    rw [ht, hu, treeQ_eq hi (by omega)] at hk
    rw [hd, hd2] at h3
    cases he : decide (t = u) with
    | true =>
      left
      rw [he, cond_true] at hk
      have e := of_decide_eq_true he
      refine ⟨i + 1, ⟨by omega, ?_⟩, by omega, rfl, SEB.of_KP (e := .normal) (sp := spQx) hmix hnum hp (.none _) hB hk (hok .normal)⟩
      rw [hL', hM', ← h3, e]
      simp
    | false =>
      right
      rw [he, cond_false] at hk
      have e := of_decide_eq_false he
      have h4 : decide (L = M) = false := by rw [← h3]; simp [e]
      have ho : outQ L M = (.ret, ⟨spQr.rho [.b false, .n L.length, .r (rowsT L), .n L.length, .r (rowsT M)], spQr.heap [.b false, .n L.length, .r (rowsT L), .n L.length, .r (rowsT M)], []⟩) := by
        unfold outQ; rw [h4]; rfl
      rw [ho]
      exact ⟨by simp, SEB.of_KP (e := .ret) (sp := spQx) hmix hnum hp (.none _) hB hk (hok .ret)⟩
  · right
    have e : i = L.length := by omega
    subst e
    rw [List.drop_length, ← hM, List.drop_length] at h3
    have ho : outQ L M = (.exit 0, ⟨spQ.rho (lfQ L.length L.length L.length (rowsT L) (rowsT M)), spQ.heap (lfQ L.length L.length L.length (rowsT L) (rowsT M)), []⟩) := by
      unfold outQ; rw [← h3]; rfl
    rw [ho]
    unfold treeQ at hk
    rw [decide_eq_false (show ¬ ((L.length : Nat) : Int) < (L.length : Int) by omega)] at hk
    exact ⟨by simp, SEB.of_KP (e := .exit 0) (sp := spQx) hmix hnum hp (.none _) hB hk (hok _)⟩
end

noncomputable def hookQ : Blk := hookP spQ 10 [] fun
  | [.n n, .n m, .i i, .n n', .r f, .n m', .r g] => .br (propB (m = n ∧ n' = n ∧ m' = n ∧ i = 0 ∧ f = rowsT (toksOf n f) ∧ g = rowsT (toksOf n g) ∧ n ≤ 4097)) (.br (decide (toksOf n f = toksOf n g)) (.leaf (.normal, spQ, lfQ n n n f g)) (.leaf (.ret, spQr, [.b false, .n n, .r f, .n n, .r g]))) .fail
  | _ => .fail
noncomputable def pQ20 : Prims := pJ.addb 20 0 hookQ

theorem pQ20_ok {A : Amb} (hT : Tab A) (hG : prog.globals.size ≤ A.G) : PrimOK prog A pQ20 := by
  refine (pJ_ok hT hG).addb func20 (show f20.body = some code20 by kernel_rfl) (body := .loop body20) (by kernel_rfl) (hookP_ok (by rfl) fun ls e sq l h => ?_)
  split at h
  · rename_i n m i n' f m' g
    obtain ⟨hc, hv⟩ := Tr.br1 h
    clear h
    obtain ⟨h1, h2, h3, h4, h5, h6, h7⟩ := propB_eq hc
    have h1 := h1.symm
    have h2 := h2.symm
    have h3 := h3.symm
    subst h1 h2 h3 h4
    obtain ⟨L, hL⟩ : ∃ L, L = toksOf n f := ⟨_, rfl⟩
    obtain ⟨M, hM⟩ : ∃ M, M = toksOf n g := ⟨_, rfl⟩
    have hn : n = L.length := by rw [hL]; simp [toksOf]
    have hn2 : M.length = n := by rw [hM]; simp [toksOf]
    rw [← hL, ← hM] at hv
    rw [← hL] at h5
    rw [← hM] at h6
    subst hn h5 h6
    have key := fun (Bb : Heap) (hB : Bb.length = 10) => loopQ hT hG L M h7 hn2 hB
    unfold outQ at key
    cases he : decide (L = M) with
    | true =>
      rw [he] at hv
      simp only [Tr.get, Option.some.injEq, Prod.mk.injEq] at hv
      obtain ⟨rfl, rfl, rfl⟩ := hv
      refine ⟨⟨.inr rfl, .inr rfl, .inr rfl, .inr rfl, .inr rfl, .inr rfl, .inr rfl, .inr rfl, .inr rfl, .inr rfl, trivial⟩, fun Bb hB => SEB.block_exit (id := 0) ?_⟩
      have := key Bb hB
      rw [he] at this
      exact this
    | false =>
      rw [he] at hv
      simp only [Tr.get, Option.some.injEq, Prod.mk.injEq] at hv
      obtain ⟨rfl, rfl, rfl⟩ := hv
      refine ⟨⟨.inr rfl, .inr rfl, .inr rfl, .inr rfl, .inr rfl, .inr rfl, .inr rfl, .inr rfl, .inr rfl, .inr rfl, trivial⟩, fun Bb hB => SEB.block_other (id := 0) ?_ (by simp)⟩
      have := key Bb hB
      rw [he] at this
      exact this
  · cases h

/-! The contract. -/
def spQ2 : SP := ⟨[.list 8, .list 9], dd8 ++ [.vec 3 52, .vec 3 52]⟩
def sqQ2 : SP := ⟨[.bool], dd8 ++ [.vec 3 52, .vec 3 52]⟩
noncomputable def TQ : List Lf → Tr (SP × List Lf)
  | [.n n, .n m, .n n', .r f, .n m', .r g] => .br (propB (n' = n ∧ m' = m ∧ f = rowsT (toksOf n f) ∧ g = rowsT (toksOf m g) ∧ n ≤ 4097)) (.leaf (sqQ2, [.b (decide (toksOf n f = toksOf m g)), .n n, .r f, .n m, .r g])) .fail
  | _ => .fail
end Go.Proofs.Tryz

/- The lexer's program: the contract of the reference's Same. -/
namespace Go.Proofs.Tryz
open Go.Ad

noncomputable def tree20 (n m : Nat) (f g : Nat → List AV) (L M : List Tok) : Option (List Lf) :=
  brK ((n : Int) != m) (some [.b false, .n n, .r f, .n m, .r g]) (brK (propB (m = n ∧ n = n ∧ m = n ∧ (0 : Int) = 0 ∧ f = rowsT (toksOf n f) ∧ g = rowsT (toksOf n g) ∧ n ≤ 4097)) (brK (decide (L = M)) (some [.b true, .n n, .r f, .n m, .r g]) (some [.b false, .n n, .r f, .n m, .r g])) none)
theorem run20 (n m : Nat) (f g : Nat → List AV) : (runK prog pQ20 60).call 20 (spQ2.rho [.n n, .n m, .n n, .r f, .n m, .r g]) (spQ2.heap [.n n, .n m, .n n, .r f, .n m, .r g]) (finP sqQ2 10 []) = tree20 n m f g (toksOf n f) (toksOf n g) := by kernel_rfl

theorem tree20_eq {n m : Nat} {f g : Nat → List AV} (hf : f = rowsT (toksOf n f)) (hg : g = rowsT (toksOf m g)) (hn : n ≤ 4097) : tree20 n m f g (toksOf n f) (toksOf n g) = some [.b (decide (toksOf n f = toksOf m g)), .n n, .r f, .n m, .r g] := by
  unfold tree20
  by_cases h : n = m
  · subst h
    rw [show ((n : Int) != n) = false by simp, propB_true (show _ ∧ _ from ⟨rfl, rfl, rfl, rfl, hf, hg, hn⟩)]
    cases decide (toksOf n f = toksOf n g) <;> rfl
  · rw [show ((n : Int) != m) = true by simp; omega]
    have : decide (toksOf n f = toksOf m g) = false := decide_eq_false fun e => h (by rw [← toksOf_len n f, e, toksOf_len])
    rw [this]; rfl

noncomputable def pQ : Prims := pJ.addh 20 (liftG 8 (funP spQ2 10 [] TQ))
theorem pQ_ok {A : Amb} (hT : Tab A) (hG : prog.globals.size ≤ A.G) : PrimOK prog A pQ := by
  refine (pJ_ok hT hG).addl gsz func20 (by kernel_rfl) (funP_ok hmix hnum rfl fun ls sq l h => ?_)
  unfold TQ at h
  split at h
  · rename_i n m n' f m' g
    obtain ⟨hc, hv⟩ := Tr.br1 h
    obtain ⟨rfl, rfl, h2, h3, h4⟩ := propB_eq hc
    cases hv
    exact ⟨⟨.inr rfl, .inr rfl, .inr rfl, .inr rfl, .inr rfl, .inr rfl, .inr rfl, .inr rfl, .inr rfl, .inr rfl, trivial⟩, rfl, rfl, pQ20, 60, pQ20_ok hT hG, (run20 _ _ f g).trans (tree20_eq h2 h3 h4)⟩
  · cases h

noncomputable def pR : Prims := withAwake pQ
theorem pR_ok {A : Amb} (hT : Tab A) (hG : prog.globals.size ≤ A.G) : PrimOK prog A pR := withAwake_ok hT hG (pQ_ok hT hG)
end Go.Proofs.Tryz
