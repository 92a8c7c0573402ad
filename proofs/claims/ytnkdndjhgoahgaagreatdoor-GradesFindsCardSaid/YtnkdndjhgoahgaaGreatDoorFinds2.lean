/- The law GradesFinds, for all arguments. -/
import Derived.Test.YtnkdndjhgoahgaaGreatDoorFinds
import Derived.Test.YtnkdndjhgoahgaaGreatDoorAdPrim

namespace Go.Proofs.Tryz
open Go.Ad

def crs (n w : Int) : Nat → Int × Int
  | 0 => (0, 6)
  | k + 1 => if tolT (ixOf n) ((5 + k : Nat) : Int) ≤ w then (((5 + k : Nat) : Int), 0) else crs n w k
def crsT (n w : Int) : Nat → Option AV
  | 0 => some (.tuple [.int .i64 0, .int .i64 6])
  | k + 1 => brK (decide ((1 ≤ n ∧ n ≤ 100000) ∧ (5 : Int) ≤ ((5 + k : Nat) : Int) ∧ ((5 + k : Nat) : Int) ≤ 12)) (brK (decide (tolT (ixOf n) ((5 + k : Nat) : Int) ≤ w)) (some (.tuple [.int .i64 ((5 + k : Nat) : Int), .int .i64 0])) (crsT n w k)) none
theorem crs27 (n w : Int) : (runK prog pSym 60).call 27 [.rng .i64 n 1 100000, .sint .i64 w] (Bg 9) finV = crsT n w 8 := by kernel_rfl
theorem crs28 (n w : Int) : (runK prog pSym 60).call 28 [.rng .i64 n 1 100000, .sint .i64 w] (Bg 9) finV = crsT n w 8 := by kernel_rfl
theorem crsT_eq {n w : Int} (hn : 1 ≤ n ∧ n ≤ 100000) : ∀ k : Nat, k ≤ 8 → crsT n w k = some (.tuple [.int .i64 (crs n w k).1, .int .i64 (crs n w k).2])
  | 0, _ => rfl
  | k + 1, hk => by
    simp only [crsT, crs]
    rw [decide_eq_true ⟨hn, by omega, by omega⟩, brT]
    by_cases h : tolT (ixOf n) ((5 + k : Nat) : Int) ≤ w
    · rw [decide_eq_true h, brT, if_pos h]
    · rw [decide_eq_false h, brF, if_neg h]; exact crsT_eq hn k (by omega)

def sCrs : List AV → Tr AV
  | [x, y] => match snum x, snum y with
    | some (.i64, n), some (.i64, w) => .br (inN n) (.leaf (.tuple [.sint .i64 (crs n w 8).1, .sint .i64 (crs n w 8).2])) .fail
    | _, _ => .fail
  | _ => .fail

theorem sCrs_sound {f : FuncId} (hr : ∀ n w, (runK prog pSym 60).call f [.rng .i64 n 1 100000, .sint .i64 w] (Bg 9) finV = crsT n w 8) (args : List AV) (v : AV) (hg : (sCrs args).get = some v) :
    ∃ args' v' B', (∀ (ι : Emb) (xs : List Value), VRL ι args xs → VRL ι args' xs) ∧ (∀ (ι : Emb) (x : Value), VR ι v' x → VR ι v x) ∧ belowL 0 args' = true ∧ below 0 v' = true ∧
      Ca prog pSym f args' (Bg prog.globals.size) (v', B', []) := by
  unfold sCrs at hg
  split at hg
  · rename_i x y
    split at hg
    · rename_i n w h1 h2
      obtain ⟨hc, hv⟩ := Tr.br_get0 hg
      have hn : 1 ≤ n ∧ n ≤ 100000 := of_decide_eq_true hc
      cases hv
      obtain ⟨B', hca⟩ := Ca.of_finV ((hr n w).trans (crsT_eq hn 8 (by omega)))
      refine ⟨_, _, B', fun ι xs hx => ?_, fun ι x hx => ?_, rfl, rfl, by rw [gsz]; exact hca⟩
      · simp only [VRL, VR] at hx ⊢
        obtain ⟨x0, l0, q1, q2, x1, l1, q3, q4, q5⟩ := hx
        exact ⟨x0, l0, q1, ⟨snum_VR h1 q2, hn⟩, x1, l1, q3, snum_VR h2 q4, q5⟩
      · simp only [VR, VRL] at hx ⊢
        exact hx
    · cases hg
  · cases hg

def pCrs : Prims := (pSym.addt 27 sCrs).addt 28 sCrs
theorem pCrs_ok {A : Amb} (hT : Tab A) (hG : prog.globals.size ≤ A.G) : PrimOK prog A pCrs :=
  PrimOK.addt2 hmix hnum (pSym_ok hT hG) (PrimOK.addt2 hmix hnum (pSym_ok hT hG) (pSym_ok hT hG) hG func27 (by kernel_rfl) (sCrs_sound crs27)) hG func28 (by kernel_rfl) (sCrs_sound crs28)

noncomputable def pFnd (t : Bool) (L : List Cl) : Prims := (pCrs.addh 25 (gFind runA 23 t L)).addh 26 (gFind runA 28 t L)
theorem pFnd_ok {A : Amb} (hT : Tab A) (hG : prog.globals.size ≤ A.G) (t : Bool) (L : List Cl) : PrimOK prog A (pFnd t L) := find26_ok hT hG (find25_ok hT hG (pCrs_ok hT hG) t L) t L
noncomputable def pFndB (a b : Int) (L : List Cl) : Prims := ((pFnd false L).addb 30 0 (hook30 a b L)).addb 29 0 (hook29 a b L)
theorem pFndB_ok {A : Amb} (hT : Tab A) (hG : prog.globals.size ≤ A.G) (a b : Int) (L : List Cl) : PrimOK prog A (pFndB a b L) :=
  PrimOK.addb (PrimOK.addb (pFnd_ok hT hG false L) func30 code30_eq blocks30 (hook30_ok hT hG a b L)) func29 code29_eq blocks29 (hook29_ok hT hG a b L)
end Go.Proofs.Tryz
