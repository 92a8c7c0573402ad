/- grades.Find as a known function, with no class or with some. -/
import Derived.Test.YtnkdndjhgoahgaaGreatDoorFind3

namespace Go.Proofs.Tryz
open Go.Ad

theorem code25_eq : f25.body = some code25 := by kernel_rfl
def args25 (n a b : Int) : List AV := [.rng .i64 n 1 100000, .agg [.sint .i64 a, .sint .i64 b]]
def res25 (o : AV) : List AV := [.bad, .bad, .bad, .bad, o, .int .i64 0] ++ List.replicate 20 .bad

theorem k25t (n a b : Int) (L : List Cl) : execK prog (runK prog (pSym.addh 75 (g75 n a b true L)) 60) noBps code25 (args25 n a b ++ List.replicate 24 aundef) (Bg 9) (nrmK (fun _ => [(4, .keep), (5, .keep)]) (fun _ => []) 9 []) =
    brK (propB (args75 = args75 ∧ heapL n a b (.slice none 0 0) = heapL n a b (.slice none 0 0) ∧ runA n a b = L ∧ L.isEmpty = true)) (some (.ret, res25 (.slice none 0 0), Bg 9, [])) none := by kernel_rfl
theorem k25f (n a b : Int) (L : List Cl) : execK prog (runK prog (pSym.addh 75 (g75 n a b false L)) 60) noBps code25 (args25 n a b ++ List.replicate 24 aundef) (Bg 9) (nrmK (fun _ => [(4, .keep), (5, .keep)]) (fun _ => []) 9 []) =
    brK (propB (args75 = args75 ∧ heapL n a b (.slice none 0 0) = heapL n a b (.slice none 0 0) ∧ runA n a b = L ∧ L.isEmpty = false)) (some (.ret, res25 (.sslice 9 0 L.length), Bg 9 ++ [vecL rowF cl0 3 23 L], [])) none := by kernel_rfl

def inN (n : Int) : Bool := decide (1 ≤ n ∧ n ≤ 100000)
noncomputable def gFind (run : Int → Int → Int → List Cl) (ty : TypeId) (t : Bool) (L : List Cl) (args : List AV) (B : Heap) : Tr (AV × Heap × List Nat) :=
  match args with
  | [x, .agg [y, z]] => match snum x, snum y, snum z with
    | some (.i64, n), some (.i64, a), some (.i64, b) =>
      if 9 ≤ B.length then .br (inN n) (.br (propB (run n a b = L ∧ L.isEmpty = t)) (bif t then .leaf (.tuple [.slice none 0 0, .int .i64 0], B, []) else .leaf (.tuple [.sslice B.length 0 L.length, .int .i64 0], B ++ [vecL rowF cl0 3 ty L], [])) .fail) .fail else .fail
    | _, _, _ => .fail
  | _ => .fail

theorem gFind_ok {A : Amb} {run : Int → Int → Int → List Cl} {ty : TypeId} {prims : Prims} (hp : PrimOK prog A prims) {f : FuncId} {fn : Func} {c : Code} (hf : prog.funcs[f]? = some fn) (hc : fn.body = some c) (t : Bool) (L : List Cl)
    (ht : ∀ n a b, 1 ≤ n ∧ n ≤ 100000 → run n a b = L → L.isEmpty = true → ∃ ρ', SEB prog A (Bg 9) c ⟨args25 n a b ++ List.replicate (fn.ntmps - 2) aundef, Bg 9, []⟩ .ret ⟨ρ', Bg 9, []⟩ ∧ aresults prog (Bg 9) ρ' fn.results.toList = some [.slice none 0 0, .int .i64 0])
    (hfl : ∀ n a b, 1 ≤ n ∧ n ≤ 100000 → run n a b = L → L.isEmpty = false → ∃ ρ', SEB prog A (Bg 9) c ⟨args25 n a b ++ List.replicate (fn.ntmps - 2) aundef, Bg 9, []⟩ .ret ⟨ρ', Bg 9 ++ [vecL rowF cl0 3 ty L], []⟩ ∧ aresults prog (Bg 9 ++ [vecL rowF cl0 3 ty L]) ρ' fn.results.toList = some [.sslice 9 0 L.length, .int .i64 0]) :
    PrimOK prog A (prims.addh f (gFind run ty t L)) := by
  refine PrimOK.fresh2 hmix hnum hp hf hc fun args B v B' D h => ?_
  unfold gFind at h
  split at h
  · rename_i x y z
    split at h
    · rename_i n a b h1 h2 h3
      split at h
      · rename_i hB
        obtain ⟨hn, h⟩ := Tr.br_get0 h
        obtain ⟨hc', hv⟩ := Tr.br_get0 h
        obtain ⟨hr, he⟩ := propB_eq hc'
        have hn := of_decide_eq_true hn
        have hw : ∀ (ι : Emb) (xs : List Value), VRL ι [x, .agg [y, z]] xs → VRL ι (args25 n a b) xs := fun ι xs hx => by
          simp only [VRL, VR, args25] at hx ⊢
          obtain ⟨x0, l0, q1, q2, x1, l1, q3, ⟨zs, q4, y0, m0, r1, r2, y1, m1, r3, r4, r5⟩, q5⟩ := hx
          exact ⟨x0, l0, q1, ⟨snum_VR h1 q2, hn⟩, x1, l1, q3, ⟨zs, q4, y0, m0, r1, snum_VR h2 r2, y1, m1, r3, snum_VR h3 r4, r5⟩, q5⟩
        rw [gsz]
        cases t with
        | true =>
          simp only [cond_true, Tr.get, Option.some.injEq, Prod.mk.injEq] at hv
          obtain ⟨rfl, rfl, rfl⟩ := hv
          obtain ⟨ρ', hs, hr⟩ := ht n a b hn hr he
          exact ⟨args25 n a b, [], _, .ret, ρ', hw, hB, by rw [List.append_nil]; exact hs, fun id => by simp, by rw [List.append_nil]; exact hr, rfl, rfl, by simp, rfl, rfl, by simp, rfl⟩
        | false =>
          simp only [cond_false, Tr.get, Option.some.injEq, Prod.mk.injEq] at hv
          obtain ⟨rfl, rfl, rfl⟩ := hv
          obtain ⟨ρ', hs, hr⟩ := hfl n a b hn hr he
          refine ⟨args25 n a b, [vecL rowF cl0 3 ty L], _, .ret, ρ', hw, hB, hs, fun id => by simp, hr, rfl, rfl, fun x o hx => ?_, rfl, ?_, rfl, rfl⟩
          · cases x with
            | zero => simp at hx; subst hx; rfl
            | succ x => simp at hx
          · simp [aresult, ren, renL, shOut]
      · cases h
    · cases h
  · cases h

theorem find25_ok {A : Amb} (hT : Tab A) (hG : prog.globals.size ≤ A.G) {prims : Prims} (hp : PrimOK prog A prims) (t : Bool) (L : List Cl) : PrimOK prog A (prims.addh 25 (gFind runA 23 t L)) := by
  refine gFind_ok hp func25 code25_eq t L (fun n a b hn hr he => ?_) (fun n a b hn hr he => ?_)
  · have hk := k25t n a b L
    rw [propB_true ⟨rfl, rfl, hr, he⟩, brT] at hk
    rw [ntmps25]
    exact ⟨_, SEB.of_KN hmix hnum (g75_ok hT hG (pSym_ok hT hG) hn true L) (.none _) rfl hk, by kernel_rfl⟩
  · have hk := k25f n a b L
    rw [propB_true ⟨rfl, rfl, hr, he⟩, brT] at hk
    rw [ntmps25]
    exact ⟨_, SEB.of_KN hmix hnum (g75_ok hT hG (pSym_ok hT hG) hn false L) (.none _) rfl hk, by kernel_rfl⟩
end Go.Proofs.Tryz
