/- The law GradesReturns: the search in the list of classes. -/
import Derived.Test.YtnkdndjhgoahgaaGreatDoorFind7
import Derived.Test.YtnkdndjhgoahgaaGreatDoorFmt
import Derived.Test.YtnkdndjhgoahgaaGreatDoorAdPrim

namespace Go.Proofs.Tryz
open Go.Ad

noncomputable def code50 : Code := match f50.body with | some c => c | none => .skip
theorem code50_eq : f50.body = some code50 := by kernel_rfl
noncomputable def r50 : Code := unLoop (findB 0 code50)
theorem blocks50 : (blocks code50).filter (fun p => p.1 == 0) = [(0, .loop r50)] := by kernel_rfl

def cellsC (x : Cl) : List AV := [.sbool x.1, .rng .i64 x.2.1 0 9, .rng .i64 x.2.2 5 12]
def heapR (x y : Cl) (e : Int × Int) (m : Nat) (R : Nat → Cl) : Heap := Bg 9 ++ [.cells (cellsC x) 0 true 23, .cells (cellsC y) 0 true 23, .cells [.rng .i64 e.1 (-4000) 4000, .rng .i64 e.2 (-4000) 4000] 0 true 39, .vec m (fun i => rowF (R i)) 3 23, .cells (cellsC x) 0 true 23, .cells (cellsC x) 0 true 23]
def rho50 (m : Nat) (i : AV) : List AV := [.sslice 12 0 m, .bad, .bad, .ptr (some (14, 0)), .bad, .bad, .sslice 12 0 m, .sint .i64 m, i] ++ List.replicate 10 .bad
def res50 (i : AV) : List AV := [.bad, .bad, .bad, .bad, i] ++ List.replicate 14 .bad
def live50 : AEx → List (Tmp × Wd)
  | .ret => [(4, .num 0 160)]
  | _ => [(0, .keep), (3, .keep), (6, .keep), (7, .keep), (8, .num 0 161)]
def eqC (x y : Cl) : Bool := x.1 == y.1 && (x.2.1 == y.2.1 && (x.2.2 == y.2.2 && true))

theorem k50 (x y : Cl) (e : Int × Int) (i : Int) (m : Nat) (R : Nat → Cl) : execK prog (runK prog pSym 60) noBps r50 (rho50 m (.rng .i64 i 0 160)) (heapR x y e m R) (nrmK live50 (fun _ => []) 15 []) =
    brK (decide (i < (m : Int))) (brK (decide (0 ≤ i ∧ i < (m : Int))) (brK (decide (0 + i.toNat < m)) (brK (eqC x (R (0 + i.toNat)))
      (some (.ret, res50 (.rng .i64 i 0 160), heapR x y e m R, [])) (some (.normal, rho50 m (.rng .i64 (i + 1) 0 161), heapR x y e m R, []))) none) none)
      (some (.exit 0, rho50 m (.rng .i64 i 0 161), heapR x y e m R, [])) := by kernel_rfl

theorem eqC_iff {x y : Cl} : eqC x y = true ↔ x = y := by
  obtain ⟨a, b, c⟩ := x
  obtain ⟨a', b', c'⟩ := y
  simp [eqC]

theorem wk50 {A : Amb} {B0 : Heap} {m : Nat} {B : Heap} {i i' : AV} (h : ∀ (ι : Emb) v, VR ι i v → VR ι i' v) : Wk A B0 ⟨rho50 m i, B, []⟩ ⟨rho50 m i', B, []⟩ :=
  Wk.temps fun ι _ hv => VRL_set (ρ := rho50 m .bad) (k := 8) (h ι) hv

section
variable {A : Amb} (hT : Tab A) (hG : prog.globals.size ≤ A.G)
include hT hG

theorem loop50 (x y : Cl) (e : Int × Int) (m : Nat) (R : Nat → Cl) {B0 : Heap} (hB : B0.length = 15) (hm : m ≤ 160) (k : Nat) (hk : k < m) (hx : R k = x) (hf : ∀ j, j < k → R j ≠ x) : ∀ (c i : Nat), i + c = k →
    SEB prog A B0 (.loop r50) ⟨rho50 m (.rng .i64 i 0 161), heapR x y e m R, []⟩ .ret ⟨res50 (.rng .i64 k 0 160), heapR x y e m R, []⟩
  | c, i, hc => by
    have e0 : 0 + (i : Int).toNat = i := by omega
    have ht := k50 x y e i m R
    rw [e0, decide_eq_true (by omega : (i : Int) < (m : Int)), decide_eq_true (by omega : 0 ≤ (i : Int) ∧ (i : Int) < (m : Int)), decide_eq_true (by omega : i < m), brT, brT, brT] at ht
    cases c with
    | zero =>
      have : i = k := by omega
      subst this
      rw [eqC_iff.2 hx.symm, brT] at ht
      exact SEB.loop_exit (SEB.wk_in (wk50 (fun _ => rng_to (a' := 0) (b' := 160) fun _ _ => by omega)) (SEB.of_KN hmix hnum (pSym_ok hT hG) (.none _) hB ht)) (by simp)
    | succ c =>
      have hne : eqC x (R i) = false := by
        cases h : eqC x (R i) with
        | false => rfl
        | true => exact (hf i (by omega) (eqC_iff.1 h).symm).elim
      rw [hne, brF] at ht
      exact SEB.loop_next (SEB.wk_in (wk50 (fun _ => rng_to (a' := 0) (b' := 160) fun _ _ => by omega)) (SEB.of_KN hmix hnum (pSym_ok hT hG) (.none _) hB ht)) (loop50 x y e m R hB hm k hk hx hf c (i + 1) (by omega))

noncomputable def hook50 (x y : Cl) (e : Int × Int) (L : List Cl) (k : Nat) (ρ : List AV) (B : Heap) : Tr (AEx × List AV × Heap × List Nat) :=
  .br (propB (canon [0, 3, 6, 7, 8] 0 ρ = rho50 L.length (.int .i64 0) ∧ B = heapR x y e L.length (fun i => L.getD i cl0) ∧ L.length ≤ 160 ∧ k < L.length ∧ L.getD k cl0 = x ∧ ∀ j, j < k → L.getD j cl0 ≠ x))
    (.leaf (.ret, res50 (.rng .i64 k 0 160), heapR x y e L.length (fun i => L.getD i cl0), [])) .fail

theorem hook50_ok (x y : Cl) (e : Int × Int) (L : List Cl) (k : Nat) : ∀ ρ B e' ρ' B' D, (hook50 x y e L k ρ B).get = some (e', ρ', B', D) → AFr B B' D ∧ SEB prog A B (.block 0 (.loop r50)) ⟨ρ, B, []⟩ e' ⟨ρ', B', D⟩ := by
  intro ρ B e' ρ' B' D h
  obtain ⟨hc, hv⟩ := Tr.br_get0 h
  obtain ⟨h1, rfl, hm, hk, hx, hf⟩ := propB_eq hc
  simp only [Tr.get, Option.some.injEq, Prod.mk.injEq] at hv
  obtain ⟨rfl, rfl, rfl, rfl⟩ := hv
  refine ⟨.refl _, SEB.block_other ?_ (by simp)⟩
  have hs := loop50 hT hG x y e L.length (fun i => L.getD i cl0) (B0 := heapR x y e L.length (fun i => L.getD i cl0)) rfl hm k hk hx hf k 0 (by omega)
  have hs2 := SEB.wk_in (wk50 (A := A) (m := L.length) (B0 := heapR x y e L.length (fun i => L.getD i cl0)) (B := heapR x y e L.length (fun i => L.getD i cl0)) (i := .int .i64 0) (fun _ => int_to (by omega))) hs
  exact SEB.wk_in (Wk.temps fun ι vs hv => by have := canon_VRL (live := [0, 3, 6, 7, 8]) (i := 0) hv; rwa [h1] at this) hs2
end

noncomputable def pRet (x y : Cl) (e : Int × Int) (L : List Cl) (k : Nat) : Prims := (((prs3 pSym).addt 12 sFmt).addh 25 (gFind runA 23 false L)).addb 50 0 (hook50 x y e L k)
theorem pRet_ok {A : Amb} (hT : Tab A) (hG : prog.globals.size ≤ A.G) (x y : Cl) (e : Int × Int) (L : List Cl) (k : Nat) : PrimOK prog A (pRet x y e L k) := by
  have h0 := prs_ok (lib_ok hT)
  exact PrimOK.addb (find25_ok hT hG (PrimOK.addt2 hmix hnum h0 (prs3_ok hT hG (pSym_ok hT hG)) hG func12 (by kernel_rfl) (sFmt_sound fmt12)) false L) func50 code50_eq blocks50 (hook50_ok hT hG x y e L k)
theorem runA_lenR (n a b : Int) : (runA n a b).length ≤ 160 := by rw [← runAR]; exact runR_len n a b 160
end Go.Proofs.Tryz
