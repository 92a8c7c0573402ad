/- The reference's search for classes as a known function. -/
import Derived.Test.YtnkdndjhgoahgaaGreatDoorFind5

namespace Go.Proofs.Tryz
open Go.Ad

def clsAt (i : Nat) : Cl := cls.getD i cl0
def runR (n a b : Int) : Nat → List Cl
  | 0 => []
  | i + 1 => stepL n a b (runR n a b i) (clsAt i)

abbrev tau26 := Option (AEx × List AV × Heap × List Nat)
theorem k26nil (n a b i : Int) (R : Nat → Cl) : execK prog (runK prog pSym 60) noBps r26 (rho26 n (.slice none 0 0) (.rng .i64 i 0 160)) (heap26 a b R) (nrmK (fun _ => live26) (fun _ => hp26) 11 []) =
    brK (decide (i < 160)) (brK (decide (0 ≤ i ∧ i < 160)) (brK (decide (0 + i.toNat < 160)) (brK (inCl n (R (0 + i.toNat)).2.1 (R (0 + i.toNat)).2.2) (brK (hit n a b (R (0 + i.toNat)))
      (brK (decide (0 ≤ i ∧ i < 160)) (brK (decide (0 + i.toNat < 160)) (some (.normal, rho26 n (.sslice 11 0 1) (.rng .i64 (i + 1) 0 161), heap26 a b R ++ [.vec 1 (fun _ => rowF (R (0 + i.toNat))) 3 28], [])) none) none)
      (some (.normal, rho26 n (.slice none 0 0) (.rng .i64 (i + 1) 0 161), heap26 a b R, []))) none) none) none)
    (some (.exit 0, rho26 n (.slice none 0 0) (.rng .i64 i 0 161), heap26 a b R, [])) := by kernel_rfl
theorem k26vec (n a b i : Int) (m : Nat) (R S : Nat → Cl) : execK prog (runK prog pSym 60) noBps r26 (rho26 n (.sslice 11 0 m) (.rng .i64 i 0 160)) (heap26 a b R ++ [.vec m (fun i => rowF (S i)) 3 28]) (nrmK (fun _ => live26) (fun _ => hp26) 11 []) =
    brK (decide (i < 160)) (brK (decide (0 ≤ i ∧ i < 160)) (brK (decide (0 + i.toNat < 160)) (brK (inCl n (R (0 + i.toNat)).2.1 (R (0 + i.toNat)).2.2) (brK (hit n a b (R (0 + i.toNat)))
      (brK (decide (0 ≤ i ∧ i < 160)) (brK (decide (0 + i.toNat < 160)) (brK (decide (m + 1 < 2147483648 ∧ m = m)) (some (.normal, rho26 n (.sslice 11 0 (m + 1)) (.rng .i64 (i + 1) 0 161), heap26 a b R ++ [.vec (m + 1) (addRow m (fun i => rowF (S i)) (rowF (R (0 + i.toNat)))) 3 28], [])) none) none) none)
      (some (.normal, rho26 n (.sslice 11 0 m) (.rng .i64 (i + 1) 0 161), heap26 a b R ++ [.vec m (fun i => rowF (S i)) 3 28], []))) none) none) none)
    (some (.exit 0, rho26 n (.sslice 11 0 m) (.rng .i64 i 0 161), heap26 a b R ++ [.vec m (fun i => rowF (S i)) 3 28], [])) := by kernel_rfl
theorem runAR (n a b : Int) : runR n a b 160 = runA n a b := by kernel_rfl
theorem cls_in : ((List.range 160).all fun i => decide (0 ≤ (clsAt i).2.1 ∧ (clsAt i).2.1 ≤ 9) && decide (5 ≤ (clsAt i).2.2 ∧ (clsAt i).2.2 ≤ 12)) = true := by kernel_rfl

theorem VRL_set {ι : Emb} {x x' : AV} (h : ∀ v, VR ι x v → VR ι x' v) : ∀ {ρ : List AV} {k : Nat} {l : List Value}, VRL ι (ρ.set k x) l → VRL ι (ρ.set k x') l
  | [], _, _, hv => hv
  | a :: r, 0, l, hv => by
    simp only [List.set_cons_zero, VRL] at hv ⊢
    obtain ⟨y, ys, e, p, q⟩ := hv
    exact ⟨y, ys, e, h _ p, q⟩
  | a :: r, k + 1, l, hv => by
    simp only [List.set_cons_succ, VRL] at hv ⊢
    obtain ⟨y, ys, e, p, q⟩ := hv
    exact ⟨y, ys, e, p, VRL_set h q⟩

noncomputable def st26 (n a b : Int) (L : List Cl) (i : AV) : St := ⟨rho26 n (outL 11 L) i, heap26 a b clsAt ++ blkL rowF cl0 3 28 L, []⟩

theorem wk26 {A : Amb} {B0 : Heap} {n a b : Int} {L : List Cl} {i i' : AV} (h : ∀ (ι : Emb) v, VR ι i v → VR ι i' v) : Wk A B0 (st26 n a b L i) (st26 n a b L i') :=
  Wk.temps fun ι vs hv => VRL_set (ρ := rho26 n (outL 11 L) .bad) (k := 9) (h ι) hv

theorem heap26_len (a b : Int) (R : Nat → Cl) : (heap26 a b R).length = 11 := rfl
theorem runR_len (n a b : Int) : ∀ i : Nat, (runR n a b i).length ≤ i
  | 0 => Nat.le_refl _
  | i + 1 => by
    have h1 := runR_len n a b i
    have h2 := stepL_len n a b (runR n a b i) (clsAt i)
    simp only [runR]; omega

section
variable {A : Amb} (hT : Tab A) (hG : prog.globals.size ≤ A.G)
include hT hG

theorem r26_next (n a b : Int) (i : Nat) (L : List Cl) {B0 : Heap} (hB : B0.length = 11) (hn : 1 ≤ n ∧ n ≤ 100000) (hi : i < 160) (hlen : L.length + 1 < 2147483648) :
    SEB prog A B0 r26 (st26 n a b L (.rng .i64 i 0 161)) .normal (st26 n a b (stepL n a b L (clsAt i)) (.rng .i64 ((i : Int) + 1) 0 161)) := by
  have hcl := List.all_eq_true.1 cls_in i (List.mem_range.2 hi)
  simp only [Bool.and_eq_true, decide_eq_true_eq] at hcl
  have hin : inCl n (clsAt i).2.1 (clsAt i).2.2 = true := decide_eq_true ⟨hn, hcl.1, hcl.2⟩
  have e0 : 0 + (i : Int).toNat = i := by omega
  have d1 : decide ((i : Int) < 160) = true := decide_eq_true (by omega)
  have d2 : decide (0 ≤ (i : Int) ∧ (i : Int) < 160) = true := decide_eq_true (by omega)
  have d3 : decide (i < 160) = true := decide_eq_true hi
  refine SEB.wk_in (wk26 (fun _ => rng_to (a' := 0) (b' := 160) fun _ _ => by omega)) ?_
  match L, hlen with
  | [], _ =>
    have hk := k26nil n a b i clsAt
    rw [e0, d1, d2, d3, hin, brT, brT, brT, brT, brT, brT] at hk
    cases hh : hit n a b (clsAt i) with
    | false =>
      rw [hh, brF] at hk
      have e : stepL n a b [] (clsAt i) = [] := by simp [stepL, hh]
      rw [e]
      have := SEB.of_KN (B0 := B0) hmix hnum (pSym_ok hT hG) (.none _) hB hk
      simpa only [st26, outL, blkL, List.isEmpty_nil, if_true, List.append_nil] using this
    | true =>
      rw [hh, brT] at hk
      have e : stepL n a b [] (clsAt i) = [clsAt i] := by simp [stepL, hh]
      rw [e]
      have := (SEB.of_KN (B0 := B0) hmix hnum (pSym_ok hT hG) (.none _) hB hk).wk_out (Wk.push1 (f := rowF) (d := cl0) (x := clsAt i) (by rw [heap26_len, hB]; omega) rfl)
      simpa only [st26, outL, blkL, List.isEmpty_nil, List.isEmpty_cons, if_true, Bool.false_eq_true, if_false, List.append_nil, List.length_singleton] using this
  | y :: r, hlen =>
    have hk := k26vec n a b i (y :: r).length clsAt (fun j => (y :: r).getD j cl0)
    rw [e0, d1, d2, d3, hin, brT, brT, brT, brT, brT, brT] at hk
    cases hh : hit n a b (clsAt i) with
    | false =>
      rw [hh, brF] at hk
      have e : stepL n a b (y :: r) (clsAt i) = y :: r := by simp [stepL, hh]
      rw [e]
      exact SEB.of_KN (B0 := B0) hmix hnum (pSym_ok hT hG) (.none _) hB hk
    | true =>
      rw [hh, brT, decide_eq_true ⟨hlen, rfl⟩, brT] at hk
      have e : stepL n a b (y :: r) (clsAt i) = (y :: r) ++ [clsAt i] := by simp [stepL, hh]
      rw [e]
      have := (SEB.of_KN (B0 := B0) hmix hnum (pSym_ok hT hG) (.none _) hB hk).wk_out (Wk.push (f := rowF) (d := cl0) (L := y :: r) (x := clsAt i) (by rw [heap26_len, hB]; omega) rowF_tag rfl)
      have e2 : ((y :: r) ++ [clsAt i]).length = (y :: r).length + 1 := by simp
      unfold st26 outL blkL
      rw [e2]
      exact this

theorem r26_exit (n a b : Int) (L : List Cl) {B0 : Heap} (hB : B0.length = 11) : SEB prog A B0 r26 (st26 n a b L (.rng .i64 (160 : Nat) 0 161)) (.exit 0) (st26 n a b L (.rng .i64 (160 : Nat) 0 161)) := by
  refine SEB.wk_in (wk26 (fun _ => rng_to (a' := 0) (b' := 160) fun _ _ => by omega)) ?_
  have d1 : decide (((160 : Nat) : Int) < 160) = false := by decide
  match L with
  | [] =>
    have hk := k26nil n a b ((160 : Nat) : Int) clsAt
    rw [d1, brF] at hk
    have := SEB.of_KN (B0 := B0) hmix hnum (pSym_ok hT hG) (.none _) hB hk
    simpa only [st26, outL, blkL, List.isEmpty_nil, if_true, List.append_nil] using this
  | y :: r =>
    have hk := k26vec n a b ((160 : Nat) : Int) (y :: r).length clsAt (fun j => (y :: r).getD j cl0)
    rw [d1, brF] at hk
    exact SEB.of_KN (B0 := B0) hmix hnum (pSym_ok hT hG) (.none _) hB hk

theorem loop26 (n a b : Int) {B0 : Heap} (hB : B0.length = 11) (hn : 1 ≤ n ∧ n ≤ 100000) : SEB prog A B0 (.loop r26) (st26 n a b [] (.rng .i64 (0 : Nat) 0 161)) (.exit 0) (st26 n a b (runA n a b) (.rng .i64 (160 : Nat) 0 161)) := by
  rw [← runAR]
  exact SEB.loop_nat (I := fun i => st26 n a b (runR n a b i) (.rng .i64 i 0 161)) (N := 160) (fun i hi => r26_next hT hG n a b i (runR n a b i) hB hn hi (by have := runR_len n a b i; omega)) (r26_exit hT hG n a b _ hB) (by simp) (i := 0) (by omega)
end
end Go.Proofs.Tryz
