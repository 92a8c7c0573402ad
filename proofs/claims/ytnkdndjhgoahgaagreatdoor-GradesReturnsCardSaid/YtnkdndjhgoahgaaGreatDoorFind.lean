/- The classes with some deviations: the program's loops over all classes. -/
import Derived.Test.YtnkdndjhgoahgaaGreatDoorDev
import Derived.Test.YtnkdndjhgoahgaaGreatDoorAdLoop

namespace Go.Proofs.Tryz
open Go.Ad

abbrev Cl := Bool × Int × Int
def rowF (x : Cl) : List AV := [.sbool x.1, .sint .i64 x.2.1, .sint .i64 x.2.2]

noncomputable def code75 : Code := match f75.body with | some c => c | none => .skip
noncomputable def code25 : Code := match f25.body with | some c => c | none => .skip
theorem code75_eq : f75.body = some code75 := by kernel_rfl
def findR : Code → Option (Code × Code)
  | .seq a b => (findR a).orElse fun _ => findR b
  | .cond _ a b => (findR a).orElse fun _ => findR b
  | .block _ c => findR c
  | .loop c => findR c
  | .scope c => findR c
  | .rangeFunc _ _ a b => some (a, b)
  | _ => none
noncomputable def as25 : Code := match findR code25 with | some (a, _) => a | none => .skip
noncomputable def body25 : Code := match findR code25 with | some (_, b) => b | none => .skip
noncomputable def q4 : Code := unLoop (findB 4 code75)
noncomputable def q2 : Code := unLoop (findB 2 code75)
noncomputable def q0 : Code := unLoop (findB 0 code75)
noncomputable def q0h : Code := fstC q0
noncomputable def q0c : Code := fstC (sndC q0)
noncomputable def q0i : Code := fstC (unBlk (fstC (sndC (sndC q0))))
noncomputable def q0j : Code := fstC (sndC (unBlk (fstC (sndC (sndC q0)))))
noncomputable def q0n : Code := sndC (sndC (sndC q0))
noncomputable def q2h : Code := fstC q2
noncomputable def q2c : Code := fstC (sndC q2)
noncomputable def q2i : Code := fstC (unBlk (fstC (sndC (sndC q2))))
noncomputable def q2j : Code := fstC (sndC (unBlk (fstC (sndC (sndC q2)))))
noncomputable def q2n : Code := sndC (sndC (sndC q2))
noncomputable def qa : Code := fstC code75
theorem q0_eq : q0 = .seq q0h (.seq q0c (.seq (.block 1 (.seq q0i (.seq q0j (.block 2 (.loop q2))))) q0n)) := by kernel_rfl
theorem q2_eq : q2 = .seq q2h (.seq q2c (.seq (.block 3 (.seq q2i (.seq q2j (.block 4 (.loop q4))))) q2n)) := by kernel_rfl
theorem c75_eq : code75 = .seq qa (.block 0 (.loop q0)) := by kernel_rfl

def rho25 (n a b : Int) : List AV := [.rng .i64 n 1 100000, .agg [.sint .i64 a, .sint .i64 b], .ptr (some (9, 0)), .ptr (some (10, 0)), .slice none 0 0, .int .i64 0, .int .i64 0, .ptr (some (11, 0)), .tuple [], .rng .i64 n 1 100000, .int .i64 0, .int .i64 0, .bool false, .tuple [], .func (.func 75) [] []] ++ List.replicate 11 (.tuple [])
noncomputable def loop25 (n a b : Int) : ALoop := ⟨.ready, none, rho25 n a b, #[15], as25, body25⟩
noncomputable def heapL (n a b : Int) (o : AV) : Heap := Bg 9 ++ [.cells [.rng .i64 n 1 100000] 0 true 3, .cells [.sint .i64 a, .sint .i64 b] 0 true 39, .cells [o] 0 true 52, .loop (loop25 n a b)]
noncomputable def heap75 (n a b : Int) (o : AV) : Heap := heapL n a b o ++ [.cells [.bool false, .bool true] 1 true 4]
def rho75 (hi h li l g : AV) : List AV := [.func (.yield 12) [] [], .bad, .bad, h, l, g, .slice (some (13, 0)) 2 2, .int .i64 2, hi, .bad, .bad, .bad, li] ++ List.replicate 15 .bad
def live75 : List (Tmp × Wd) := [(0, .keep), (3, .keep), (4, .keep), (5, .num 5 13), (6, .keep), (7, .keep), (8, .keep), (12, .keep)]
def hp75 : List (Nat × HW) := [(11, .cells [.list]), (14, .vec1)]
def hit (n a b : Int) (x : Cl) : Bool := (devT (ixOf n) x.1 x.2.1 x.2.2).1 == a && ((devT (ixOf n) x.1 x.2.1 x.2.2).2 == b && true)
def stepL (n a b : Int) (L : List Cl) (x : Cl) : List Cl := if hit n a b x then L ++ [x] else L
def inCl (n l g : Int) : Bool := decide ((1 ≤ n ∧ n ≤ 100000) ∧ (0 ≤ l ∧ l ≤ 9) ∧ 5 ≤ g ∧ g ≤ 12)

theorem k4nil (n a b k l g : Int) (h : Bool) : execK prog (runK prog pSym 60) noBps q4 (rho75 (.rng .i64 k 0 1) (.sbool h) (.rng .i64 l 0 9) (.rng .i64 l 0 9) (.rng .i64 g 5 12)) (heap75 n a b (.slice none 0 0)) (nrmK (fun _ => live75) (fun _ => hp75) 13 [11, 12]) =
    brK (inCl n l g) (brK (hit n a b (h, l, g))
      (some (.normal, rho75 (.rng .i64 k 0 1) (.sbool h) (.rng .i64 l 0 9) (.rng .i64 l 0 9) (.rng .i64 (g + 1) 5 13), heap75 n a b (.sslice 14 0 1) ++ [.vec 1 (fun _ => rowF (h, l, g)) 3 23], [11, 12]))
      (some (.normal, rho75 (.rng .i64 k 0 1) (.sbool h) (.rng .i64 l 0 9) (.rng .i64 l 0 9) (.rng .i64 (g + 1) 5 13), heap75 n a b (.slice none 0 0), [11, 12]))) none := by kernel_rfl

theorem k4vec (n a b k l g : Int) (h : Bool) (m : Nat) (R : Nat → Cl) : execK prog (runK prog pSym 60) noBps q4 (rho75 (.rng .i64 k 0 1) (.sbool h) (.rng .i64 l 0 9) (.rng .i64 l 0 9) (.rng .i64 g 5 12)) (heap75 n a b (.sslice 14 0 m) ++ [.vec m (fun i => rowF (R i)) 3 23]) (nrmK (fun _ => live75) (fun _ => hp75) 13 [11, 12]) =
    brK (inCl n l g) (brK (hit n a b (h, l, g)) (brK (decide (m + 1 < 2147483648 ∧ m = m))
      (some (.normal, rho75 (.rng .i64 k 0 1) (.sbool h) (.rng .i64 l 0 9) (.rng .i64 l 0 9) (.rng .i64 (g + 1) 5 13), heap75 n a b (.sslice 14 0 (m + 1)) ++ [.vec (m + 1) (addRow m (fun i => rowF (R i)) [.sbool h, .rng .i64 l 0 9, .rng .i64 g 5 12]) 3 23], [11, 12])) none)
      (some (.normal, rho75 (.rng .i64 k 0 1) (.sbool h) (.rng .i64 l 0 9) (.rng .i64 l 0 9) (.rng .i64 (g + 1) 5 13), heap75 n a b (.sslice 14 0 m) ++ [.vec m (fun i => rowF (R i)) 3 23], [11, 12]))) none := by kernel_rfl

def lv75 : List Tmp := [0, 3, 4, 5, 6, 7, 8, 12]
def rhoX (hi h li l g c9 c13 : AV) : List AV := [.func (.yield 12) [] [], .bad, .bad, h, l, g, .slice (some (13, 0)) 2 2, .int .i64 2, hi, c9, .bad, .bad, li, c13] ++ List.replicate 14 .bad
theorem k4x (g : Int) (hi h li l : AV) (B : Heap) : execK prog (runK prog pSym 60) noBps q4 (rho75 hi h li l (.rng .i64 g 13 13)) B (keepK [0, 3, 6, 7, 8, 12]) = some (.exit 4, rho75 hi h li .bad .bad, B, []) := by kernel_rfl
theorem k2h (m : Int) (hi h l g : AV) (B : Heap) : execK prog (runK prog pSym 60) noBps q2h (rho75 hi h (.rng .i64 m 0 9) l g) B (keepK (13 :: lv75)) = some (.normal, rhoX hi h (.rng .i64 m 0 9) l g .bad (.bool true), B, []) := by kernel_rfl
theorem k2hx (m : Int) (hi h l g : AV) (B : Heap) : execK prog (runK prog pSym 60) noBps q2h (rho75 hi h (.rng .i64 m 10 10) l g) B (keepK (13 :: lv75)) = some (.normal, rhoX hi h (.rng .i64 m 10 10) l g .bad (.bool false), B, []) := by kernel_rfl
theorem k2c (hi h li l g : AV) (B : Heap) : execK prog (runK prog pSym 60) noBps q2c (rhoX hi h li l g .bad (.bool true)) B (keepK lv75) = some (.normal, rho75 hi h li l g, B, []) := by kernel_rfl
theorem k2cx (hi h li l g : AV) (B : Heap) : execK prog (runK prog pSym 60) noBps q2c (rhoX hi h li l g .bad (.bool false)) B (keepK [0, 3, 4, 5, 6, 7, 8]) = some (.exit 2, rho75 hi h .bad l g, B, []) := by kernel_rfl
theorem k2i (m : Int) (hi h l g : AV) (B : Heap) : execK prog (runK prog pSym 60) noBps q2i (rho75 hi h (.rng .i64 m 0 9) l g) B (keepK lv75) = some (.normal, rho75 hi h (.rng .i64 m 0 9) (.rng .i64 m 0 9) g, B, []) := by kernel_rfl
theorem k2j (hi h li l g : AV) (B : Heap) : execK prog (runK prog pSym 60) noBps q2j (rho75 hi h li l g) B (keepK lv75) = some (.normal, rho75 hi h li l (.int .i64 5), B, []) := by kernel_rfl
theorem k2n (m : Int) (hi h l g : AV) (B : Heap) : execK prog (runK prog pSym 60) noBps q2n (rho75 hi h (.rng .i64 m 0 9) l g) B (keepK lv75) = some (.normal, rho75 hi h (.rng .i64 (m + 1) 1 10) l g, B, []) := by kernel_rfl
def hiV (t : Bool) : AV := .int .i64 (bif t then 1 else 0)
theorem k0h0 (h li l g : AV) (B : Heap) : execK prog (runK prog pSym 60) noBps q0h (rho75 (.int .i64 0) h li l g) B (keepK (9 :: lv75)) = some (.normal, rhoX (.int .i64 0) h li l g (.bool true) .bad, B, []) := by kernel_rfl
theorem k0h1 (h li l g : AV) (B : Heap) : execK prog (runK prog pSym 60) noBps q0h (rho75 (.int .i64 1) h li l g) B (keepK (9 :: lv75)) = some (.normal, rhoX (.int .i64 1) h li l g (.bool true) .bad, B, []) := by kernel_rfl
theorem k0h2 (h li l g : AV) (B : Heap) : execK prog (runK prog pSym 60) noBps q0h (rho75 (.int .i64 2) h li l g) B (keepK (9 :: lv75)) = some (.normal, rhoX (.int .i64 2) h li l g (.bool false) .bad, B, []) := by kernel_rfl
theorem k0c (hi h li l g : AV) (B : Heap) : execK prog (runK prog pSym 60) noBps q0c (rhoX hi h li l g (.bool true) .bad) B (keepK lv75) = some (.normal, rho75 hi h li l g, B, []) := by kernel_rfl
theorem k0cx (hi h li l g : AV) (B : Heap) : execK prog (runK prog pSym 60) noBps q0c (rhoX hi h li l g (.bool false) .bad) B (keepK []) = some (.exit 0, List.replicate 28 .bad, B, []) := by kernel_rfl
theorem k0i0 (n a b : Int) (h li l g o : AV) (X : Heap) : execK prog (runK prog pSym 60) noBps q0i (rho75 (.int .i64 0) h li l g) (heap75 n a b o ++ X) (keepK lv75) = some (.normal, rho75 (.int .i64 0) (.bool false) li l g, heap75 n a b o ++ X, []) := by kernel_rfl
theorem k0i1 (n a b : Int) (h li l g o : AV) (X : Heap) : execK prog (runK prog pSym 60) noBps q0i (rho75 (.int .i64 1) h li l g) (heap75 n a b o ++ X) (keepK lv75) = some (.normal, rho75 (.int .i64 1) (.bool true) li l g, heap75 n a b o ++ X, []) := by kernel_rfl
theorem k0j (hi h li l g : AV) (B : Heap) : execK prog (runK prog pSym 60) noBps q0j (rho75 hi h li l g) B (keepK lv75) = some (.normal, rho75 hi h (.int .i64 0) l g, B, []) := by kernel_rfl
theorem k0n0 (h li l g : AV) (B : Heap) : execK prog (runK prog pSym 60) noBps q0n (rho75 (.int .i64 0) h li l g) B (keepK lv75) = some (.normal, rho75 (.int .i64 1) h li l g, B, []) := by kernel_rfl
theorem k0n1 (h li l g : AV) (B : Heap) : execK prog (runK prog pSym 60) noBps q0n (rho75 (.int .i64 1) h li l g) B (keepK lv75) = some (.normal, rho75 (.int .i64 2) h li l g, B, []) := by kernel_rfl
def args75 : List AV := [.func (.yield 12) [] []]
theorem kqa (n a b : Int) : execK prog (runK prog pSym 60) noBps qa (args75 ++ List.replicate 27 aundef) (heapL n a b (.slice none 0 0)) (nrmK (fun _ => [(0, .keep), (6, .keep), (7, .keep), (8, .keep)]) (fun _ => []) 13 [11, 12]) =
    some (.normal, rho75 (.int .i64 0) .bad .bad .bad .bad, heap75 n a b (.slice none 0 0), [11, 12]) := by kernel_rfl
theorem kend0 (n a b : Int) : nrmK (fun _ => []) (fun _ => []) 13 [11, 12] .normal (List.replicate 28 .bad) (heap75 n a b (.slice none 0 0)) [] = some (.normal, List.replicate 28 .bad, heapL n a b (.slice none 0 0), [11, 12]) := by kernel_rfl
theorem kend1 (n a b : Int) (m : Nat) (R : Nat → Cl) : nrmK (fun _ => []) (fun _ => []) 13 [11, 12] .normal (List.replicate 28 .bad) (heap75 n a b (.sslice 14 0 m) ++ [.vec m (fun i => rowF (R i)) 3 23]) [] =
    some (.normal, List.replicate 28 .bad, heapL n a b (.sslice 13 0 m) ++ [.vec m (fun i => rowF (R i)) 3 23], [11, 12]) := by kernel_rfl
end Go.Proofs.Tryz
