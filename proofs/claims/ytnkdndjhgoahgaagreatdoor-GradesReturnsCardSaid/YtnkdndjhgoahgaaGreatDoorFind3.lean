/- The classes with some deviations: the program's loops as a known function, with no class or with some. -/
import Derived.Test.YtnkdndjhgoahgaaGreatDoorFind2

namespace Go.Proofs.Tryz
open Go.Ad

theorem frL (n a b : Int) (o : AV) (X : Heap) : frP [11, 12] 0 (heapL n a b (.slice none 0 0)) (heapL n a b o ++ X) :=
  ⟨.inr rfl, .inr rfl, .inr rfl, .inr rfl, .inr rfl, .inr rfl, .inr rfl, .inr rfl, .inr rfl, .inr rfl, .inr rfl, .inl rfl, .inl rfl, trivial⟩

noncomputable def g75 (n a b : Int) (t : Bool) (L : List Cl) (args : List AV) (B : Heap) : Tr (AV × Heap × List Nat) :=
  .br (propB (args = args75 ∧ B = heapL n a b (.slice none 0 0) ∧ runA n a b = L ∧ L.isEmpty = t))
    (bif t then .leaf (.tuple [], heapL n a b (.slice none 0 0), [11, 12]) else .leaf (.tuple [], heapL n a b (.sslice 13 0 L.length) ++ [vecL rowF cl0 3 23 L], [11, 12])) .fail


theorem g75_ok {A : Amb} (hT : Tab A) (hG : prog.globals.size ≤ A.G) {prims : Prims} (hp : PrimOK prog A prims) {n a b : Int} (hn : 1 ≤ n ∧ n ≤ 100000) (t : Bool) (L : List Cl) : PrimOK prog A (prims.addh 75 (g75 n a b t L)) := by
  refine PrimOK.body hp func75 code75_eq fun args B v B' D h => ?_
  obtain ⟨hc, hv⟩ := Tr.br_get0 h
  obtain ⟨rfl, rfl, hL, ht⟩ := propB_eq hc
  have hb := body75 hT hG n a b hn
  rw [hL] at hb
  have fin : ∀ (X : Heap) (o : AV), heapL n a b (outL 13 L) ++ blkL rowF cl0 3 23 L = heapL n a b o ++ X → v = .tuple [] → B' = heapL n a b o ++ X → D = [11, 12] →
      AFr (heapL n a b (.slice none 0 0)) B' D ∧ ∃ args' e s' vs, (∀ (ι : Emb) (xs : List Value), VRL ι args75 xs → VRL ι args' xs) ∧ SEB prog A (heapL n a b (.slice none 0 0)) code75 ⟨args' ++ List.replicate (f75.ntmps - args'.length) aundef, heapL n a b (.slice none 0 0), []⟩ e s' ∧
        (∀ id, e ≠ .exit id) ∧ aresults prog s'.B s'.ρ f75.results.toList = some vs ∧ aresult vs = v ∧ s'.B = B' ∧ s'.D = D := by
    rintro X o hX rfl rfl rfl
    rw [hX] at hb
    exact ⟨AFr.of_frP (frL n a b o X), args75, .normal, _, [], fun _ _ h => h, by rw [ntmps75]; exact hb, fun id => by simp, by kernel_rfl, rfl, rfl, rfl⟩
  cases t with
  | true =>
    simp only [cond_true, Tr.get, Option.some.injEq, Prod.mk.injEq] at hv
    obtain ⟨rfl, rfl, rfl⟩ := hv
    exact fin [] (.slice none 0 0) (by unfold outL blkL; rw [ht]; rfl) rfl (by simp) rfl
  | false =>
    simp only [cond_false, Tr.get, Option.some.injEq, Prod.mk.injEq] at hv
    obtain ⟨rfl, rfl, rfl⟩ := hv
    exact fin [vecL rowF cl0 3 23 L] (.sslice 13 0 L.length) (by unfold outL blkL; rw [ht]; rfl) rfl rfl rfl
end Go.Proofs.Tryz
