/- The law GradesFinds: the lists of classes are turned and compared. -/
import Derived.Test.YtnkdndjhgoahgaaGreatDoorFind7

namespace Go.Proofs.Tryz
open Go.Ad

noncomputable def code30 : Code := match f30.body with | some c => c | none => .skip
noncomputable def code29 : Code := match f29.body with | some c => c | none => .skip
theorem code30_eq : f30.body = some code30 := by kernel_rfl
theorem code29_eq : f29.body = some code29 := by kernel_rfl
noncomputable def r30 : Code := unLoop (findB 0 code30)
noncomputable def r29 : Code := unLoop (findB 0 code29)
theorem blocks30 : (blocks code30).filter (fun p => p.1 == 0) = [(0, .loop r30)] := by kernel_rfl
theorem blocks29 : (blocks code29).filter (fun p => p.1 == 0) = [(0, .loop r29)] := by kernel_rfl

def heapM (a b : Int) (m : Nat) (R : Nat → Cl) : Heap := Bg 9 ++ [.cells [.sint .i64 a, .sint .i64 b] 0 true 39, .vec m (fun i => rowF (R i)) 3 23, .vec m (fun i => rowF (R i)) 3 28]
def rho30 (m : Nat) (out i : AV) : List AV := [.bad, .bad, .bad, out, .bad, .bad, .sslice 10 0 m, .sint .i64 m, i] ++ List.replicate 9 .bad
def rho29 (m : Nat) (i : AV) : List AV := [.sslice 12 0 m, .sslice 11 0 m, .bad, .bad, .bad, i] ++ List.replicate 20 .bad
def live30 : List (Tmp × Wd) := [(3, .list), (6, .keep), (7, .keep), (8, .num 0 161)]
def live29 : List (Tmp × Wd) := [(0, .keep), (1, .keep), (5, .num 0 161)]
def hp30 : List (Nat × HW) := [(12, .vec1)]

theorem k30nil (a b i : Int) (m : Nat) (R : Nat → Cl) : execK prog (runK prog pSym 60) noBps r30 (rho30 m (.slice none 0 0) (.rng .i64 i 0 160)) (heapM a b m R) (nrmK (fun _ => live30) (fun _ => hp30) 12 []) =
    brK (decide (i < (m : Int))) (brK (decide (0 ≤ i ∧ i < (m : Int))) (brK (decide (0 + i.toNat < m)) (some (.normal, rho30 m (.sslice 12 0 1) (.rng .i64 (i + 1) 0 161), heapM a b m R ++ [.vec 1 (fun _ => rowF (R (0 + i.toNat))) 3 28], [])) none) none)
      (some (.exit 0, rho30 m (.slice none 0 0) (.rng .i64 i 0 161), heapM a b m R, [])) := by kernel_rfl
theorem k30vec (a b i : Int) (m k : Nat) (R S : Nat → Cl) : execK prog (runK prog pSym 60) noBps r30 (rho30 m (.sslice 12 0 k) (.rng .i64 i 0 160)) (heapM a b m R ++ [.vec k (fun i => rowF (S i)) 3 28]) (nrmK (fun _ => live30) (fun _ => hp30) 12 []) =
    brK (decide (i < (m : Int))) (brK (decide (0 ≤ i ∧ i < (m : Int))) (brK (decide (0 + i.toNat < m)) (brK (decide (k + 1 < 2147483648 ∧ k = k)) (some (.normal, rho30 m (.sslice 12 0 (k + 1)) (.rng .i64 (i + 1) 0 161), heapM a b m R ++ [.vec (k + 1) (addRow k (fun i => rowF (S i)) (rowF (R (0 + i.toNat)))) 3 28], [])) none) none) none)
      (some (.exit 0, rho30 m (.sslice 12 0 k) (.rng .i64 i 0 161), heapM a b m R ++ [.vec k (fun i => rowF (S i)) 3 28], [])) := by kernel_rfl
theorem k29 (a b i : Int) (m : Nat) (R : Nat → Cl) : execK prog (runK prog pSym 60) noBps r29 (rho29 m (.rng .i64 i 0 160)) (heapM a b m R ++ [.vec m (fun i => rowF (R i)) 3 28]) (nrmK (fun _ => live29) (fun _ => []) 13 []) =
    brK (decide (i < (m : Int))) (brK (decide (0 ≤ i ∧ i < (m : Int))) (brK (decide (0 + i.toNat < m)) (brK (decide (0 ≤ i ∧ i < (m : Int))) (brK (decide (0 + i.toNat < m))
      (brK (!((R (0 + i.toNat)).1 == (R (0 + i.toNat)).1 && ((R (0 + i.toNat)).2.1 == (R (0 + i.toNat)).2.1 && ((R (0 + i.toNat)).2.2 == (R (0 + i.toNat)).2.2 && true))))
        (some (.ret, rho29 m (.rng .i64 i 0 161), heapM a b m R ++ [.vec m (fun i => rowF (R i)) 3 28], [])) (some (.normal, rho29 m (.rng .i64 (i + 1) 0 161), heapM a b m R ++ [.vec m (fun i => rowF (R i)) 3 28], []))) none) none) none) none)
      (some (.exit 0, rho29 m (.rng .i64 i 0 161), heapM a b m R ++ [.vec m (fun i => rowF (R i)) 3 28], [])) := by kernel_rfl

noncomputable def heapN (a b : Int) (L : List Cl) : Heap := heapM a b L.length fun i => L.getD i cl0
theorem heapN_len (a b : Int) (L : List Cl) : (heapN a b L).length = 12 := rfl
noncomputable def st30 (a b : Int) (L K : List Cl) (i : AV) : St := ⟨rho30 L.length (outL 12 K) i, heapN a b L ++ blkL rowF cl0 3 28 K, []⟩
theorem wk30 {A : Amb} {B0 : Heap} {a b : Int} {L K : List Cl} {i i' : AV} (h : ∀ (ι : Emb) v, VR ι i v → VR ι i' v) : Wk A B0 (st30 a b L K i) (st30 a b L K i') :=
  Wk.temps fun ι _ hv => VRL_set (ρ := rho30 L.length (outL 12 K) .bad) (k := 8) (h ι) hv
noncomputable def st29 (a b : Int) (L : List Cl) (i : AV) : St := ⟨rho29 L.length i, heapN a b L ++ [vecL rowF cl0 3 28 L], []⟩
theorem wk29 {A : Amb} {B0 : Heap} {a b : Int} {L : List Cl} {i i' : AV} (h : ∀ (ι : Emb) v, VR ι i v → VR ι i' v) : Wk A B0 (st29 a b L i) (st29 a b L i') :=
  Wk.temps fun ι _ hv => VRL_set (ρ := rho29 L.length .bad) (k := 5) (h ι) hv

theorem take_next {L : List Cl} {i : Nat} (hi : i < L.length) : L.take (i + 1) = L.take i ++ [L.getD i cl0] := by
  rw [List.take_add_one, List.getD_eq_getElem?_getD, List.getElem?_eq_getElem hi]; rfl

section
variable {A : Amb} (hT : Tab A) (hG : prog.globals.size ≤ A.G)
include hT hG

theorem r30_next (a b : Int) (L : List Cl) (i : Nat) {B0 : Heap} (hB : B0.length = 12) (hi : i < L.length) (hL : L.length ≤ 160) : SEB prog A B0 r30 (st30 a b L (L.take i) (.rng .i64 i 0 161)) .normal (st30 a b L (L.take (i + 1)) (.rng .i64 ((i : Int) + 1) 0 161)) := by
  have e0 : 0 + (i : Int).toNat = i := by omega
  have d1 : decide ((i : Int) < (L.length : Int)) = true := decide_eq_true (by omega)
  have d2 : decide (0 ≤ (i : Int) ∧ (i : Int) < (L.length : Int)) = true := decide_eq_true (by omega)
  have d3 : decide (i < L.length) = true := decide_eq_true hi
  have hlen : (L.take i).length = i := by rw [List.length_take]; omega
  refine SEB.wk_in (wk30 (fun _ => rng_to (a' := 0) (b' := 160) fun _ _ => by omega)) ?_
  rw [take_next hi]
  generalize L.take i = K at hlen ⊢
  match K, hlen with
  | [], _ =>
    have hk := k30nil a b i L.length (fun j => L.getD j cl0)
    rw [e0, d1, d2, d3, brT, brT, brT] at hk
    have := (SEB.of_KN (B0 := B0) hmix hnum (pSym_ok hT hG) (.none _) hB hk).wk_out (Wk.push1 (f := rowF) (d := cl0) (x := L.getD i cl0) (by rw [hB]; exact Nat.le_refl _) rfl)
    simpa only [st30, heapN, outL, blkL, List.isEmpty_nil, List.isEmpty_cons, if_true, Bool.false_eq_true, if_false, List.append_nil, List.nil_append, List.length_singleton] using this
  | y :: r, hlen =>
    have hk := k30vec a b i L.length (y :: r).length (fun j => L.getD j cl0) (fun j => (y :: r).getD j cl0)
    rw [e0, d1, d2, d3, decide_eq_true ⟨by omega, rfl⟩, brT, brT, brT, brT] at hk
    have := (SEB.of_KN (B0 := B0) hmix hnum (pSym_ok hT hG) (.none _) hB hk).wk_out (Wk.push (f := rowF) (d := cl0) (L := y :: r) (x := L.getD i cl0) (by rw [hB]; exact Nat.le_refl _) rowF_tag rfl)
    have e2 : ((y :: r) ++ [L.getD i cl0]).length = (y :: r).length + 1 := by simp
    unfold st30 outL blkL
    rw [e2]
    exact this

theorem r30_exit (a b : Int) (L : List Cl) {B0 : Heap} (hB : B0.length = 12) (hL : L.length ≤ 160) : SEB prog A B0 r30 (st30 a b L L (.rng .i64 L.length 0 161)) (.exit 0) (st30 a b L L (.rng .i64 L.length 0 161)) := by
  refine SEB.wk_in (wk30 (fun _ => rng_to (a' := 0) (b' := 160) fun _ _ => by omega)) ?_
  match L with
  | [] =>
    have hk := k30nil a b (([] : List Cl).length : Int) ([] : List Cl).length (fun j => ([] : List Cl).getD j cl0)
    rw [show decide ((([] : List Cl).length : Int) < (([] : List Cl).length : Int)) = false from rfl, brF] at hk
    have := SEB.of_KN (B0 := B0) hmix hnum (pSym_ok hT hG) (.none _) hB hk
    simpa only [st30, heapN, outL, blkL, List.isEmpty_nil, if_true, List.append_nil] using this
  | y :: r =>
    have hk := k30vec a b ((y :: r).length : Int) (y :: r).length (y :: r).length (fun j => (y :: r).getD j cl0) (fun j => (y :: r).getD j cl0)
    rw [decide_eq_false (by omega), brF] at hk
    exact SEB.of_KN (B0 := B0) hmix hnum (pSym_ok hT hG) (.none _) hB hk

theorem loop30 (a b : Int) (L : List Cl) {B0 : Heap} (hB : B0.length = 12) (hL : L.length ≤ 160) : SEB prog A B0 (.loop r30) (st30 a b L [] (.rng .i64 (0 : Nat) 0 161)) (.exit 0) (st30 a b L L (.rng .i64 L.length 0 161)) := by
  have h := SEB.loop_nat (P := prog) (A := A) (B0 := B0) (c := r30) (I := fun i => st30 a b L (L.take i) (.rng .i64 i 0 161)) (N := L.length) (s' := st30 a b L L (.rng .i64 L.length 0 161)) (e := .exit 0) (fun i hi => r30_next hT hG a b L i hB hi hL)
    (by rw [List.take_length]; exact r30_exit hT hG a b L hB hL) (by simp) (i := 0) (by omega)
  exact h

theorem loop29 (a b : Int) (L : List Cl) {B0 : Heap} (hB : B0.length = 13) (hL : L.length ≤ 160) : SEB prog A B0 (.loop r29) (st29 a b L (.rng .i64 (0 : Nat) 0 161)) (.exit 0) (st29 a b L (.rng .i64 L.length 0 161)) := by
  refine SEB.loop_nat (P := prog) (A := A) (B0 := B0) (c := r29) (I := fun i => st29 a b L (.rng .i64 i 0 161)) (N := L.length) (s' := st29 a b L (.rng .i64 L.length 0 161)) (e := .exit 0) (fun i hi => ?_) ?_ (by simp) (i := 0) (by omega)
  · have e0 : 0 + (i : Int).toNat = i := by omega
    refine SEB.wk_in (wk29 (fun _ => rng_to (a' := 0) (b' := 160) fun _ _ => by omega)) ?_
    have hk := k29 a b i L.length (fun j => L.getD j cl0)
    rw [e0, decide_eq_true (by omega : (i : Int) < (L.length : Int)), decide_eq_true (by omega : 0 ≤ (i : Int) ∧ (i : Int) < (L.length : Int)), decide_eq_true hi, brT, brT, brT, brT, brT] at hk
    simp only [beq_self_eq_true, Bool.and_self, Bool.not_true, brF] at hk
    exact SEB.of_KN (B0 := B0) hmix hnum (pSym_ok hT hG) (.none _) hB hk
  · refine SEB.wk_in (wk29 (fun _ => rng_to (a' := 0) (b' := 160) fun _ _ => by omega)) ?_
    have hk := k29 a b (L.length : Int) L.length (fun j => L.getD j cl0)
    rw [decide_eq_false (by omega), brF] at hk
    exact SEB.of_KN (B0 := B0) hmix hnum (pSym_ok hT hG) (.none _) hB hk

noncomputable def hook30 (a b : Int) (L : List Cl) (ρ : List AV) (B : Heap) : Tr (AEx × List AV × Heap × List Nat) :=
  .br (propB (canon [3, 6, 7, 8] 0 ρ = rho30 L.length (.slice none 0 0) (.int .i64 0) ∧ B = heapN a b L ∧ L.isEmpty = false ∧ L.length ≤ 160))
    (.leaf (.normal, rho30 L.length (.sslice 12 0 L.length) .bad, heapN a b L ++ [vecL rowF cl0 3 28 L], [])) .fail

theorem hook30_ok (a b : Int) (L : List Cl) : ∀ ρ B e ρ' B' D, (hook30 a b L ρ B).get = some (e, ρ', B', D) → AFr B B' D ∧ SEB prog A B (.block 0 (.loop r30)) ⟨ρ, B, []⟩ e ⟨ρ', B', D⟩ := by
  intro ρ B e ρ' B' D h
  obtain ⟨hc, hv⟩ := Tr.br_get0 h
  obtain ⟨h1, rfl, ht, hL⟩ := propB_eq hc
  simp only [Tr.get, Option.some.injEq, Prod.mk.injEq] at hv
  obtain ⟨rfl, rfl, rfl, rfl⟩ := hv
  refine ⟨⟨by simp, fun c hc _ => List.getElem?_append_left hc⟩, ?_⟩
  have hs := SEB.block_exit (loop30 hT hG a b L (B0 := heapN a b L) rfl hL)
  have hs2 := SEB.wk_in (wk30 (A := A) (B0 := heapN a b L) (a := a) (b := b) (L := L) (K := []) (i := .int .i64 0) (fun _ => int_to (by omega))) hs
  have hs3 := SEB.wk_out hs2 (wk30 (i' := .bad) fun _ => bad_to)
  have hs4 := SEB.wk_in (s := ⟨ρ, heapN a b L, []⟩) (Wk.trans (Wk.temps fun ι vs hv => by have := canon_VRL (live := [3, 6, 7, 8]) (i := 0) hv; rwa [h1] at this) (by
    have := Wk.refl (A := A) (B0 := heapN a b L) (s := st30 a b L [] (.int .i64 0))
    simpa only [st30, outL, blkL, List.isEmpty_nil, if_true, List.append_nil] using this)) hs3
  simpa only [st30, outL, blkL, ht, Bool.false_eq_true, if_false] using hs4

noncomputable def hook29 (a b : Int) (L : List Cl) (ρ : List AV) (B : Heap) : Tr (AEx × List AV × Heap × List Nat) :=
  .br (propB (canon [0, 1, 5] 0 ρ = rho29 L.length (.int .i64 0) ∧ B = heapN a b L ++ [vecL rowF cl0 3 28 L] ∧ L.length ≤ 160))
    (.leaf (.normal, rho29 L.length .bad, heapN a b L ++ [vecL rowF cl0 3 28 L], [])) .fail

theorem hook29_ok (a b : Int) (L : List Cl) : ∀ ρ B e ρ' B' D, (hook29 a b L ρ B).get = some (e, ρ', B', D) → AFr B B' D ∧ SEB prog A B (.block 0 (.loop r29)) ⟨ρ, B, []⟩ e ⟨ρ', B', D⟩ := by
  intro ρ B e ρ' B' D h
  obtain ⟨hc, hv⟩ := Tr.br_get0 h
  obtain ⟨h1, rfl, hL⟩ := propB_eq hc
  simp only [Tr.get, Option.some.injEq, Prod.mk.injEq] at hv
  obtain ⟨rfl, rfl, rfl, rfl⟩ := hv
  refine ⟨.refl _, ?_⟩
  have hs := SEB.block_exit (loop29 hT hG a b L (B0 := heapN a b L ++ [vecL rowF cl0 3 28 L]) (by rw [List.length_append, heapN_len]; rfl) hL)
  have hs2 := SEB.wk_in (wk29 (A := A) (B0 := heapN a b L ++ [vecL rowF cl0 3 28 L]) (a := a) (b := b) (L := L) (i := .int .i64 0) (fun _ => int_to (by omega))) hs
  exact SEB.wk_in (Wk.temps fun ι vs hv => by have := canon_VRL (live := [0, 1, 5]) (i := 0) hv; rwa [h1] at this) (SEB.wk_out hs2 (wk29 (i' := .bad) fun _ => bad_to))

omit hT hG in
theorem runA_len (n a b : Int) : (runA n a b).length ≤ 160 := by rw [← runAR]; exact runR_len n a b 160

end
end Go.Proofs.Tryz
