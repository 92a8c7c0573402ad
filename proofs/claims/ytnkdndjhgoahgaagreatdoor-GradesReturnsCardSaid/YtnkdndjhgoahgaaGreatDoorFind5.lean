/- The reference's search for classes: its loop. -/
import Derived.Test.YtnkdndjhgoahgaaGreatDoorFind4

namespace Go.Proofs.Tryz
open Go.Ad

noncomputable def code26 : Code := match f26.body with | some c => c | none => .skip
theorem code26_eq : f26.body = some code26 := by kernel_rfl
noncomputable def r26 : Code := unLoop (findB 0 code26)
/-- All classes, in order. -/
def cls : List Cl := [false, true].flatMap fun h => (List.range 10).flatMap fun (l : Nat) => (List.range 8).map fun (g : Nat) => ((h, (l : Int), ((5 + g : Nat) : Int)) : Cl)
def rho26 (n : Int) (out i : AV) : List AV := [.rng .i64 n 1 100000, .bad, .bad, .ptr (some (9, 0)), .bad, .bad, .bad, .sslice 10 0 160, out, i] ++ List.replicate 28 .bad
def heap26 (a b : Int) (R : Nat → Cl) : Heap := Bg 9 ++ [.cells [.sint .i64 a, .sint .i64 b] 0 true 39, .vec 160 (fun i => rowF (R i)) 3 28]
def live26 : List (Tmp × Wd) := [(0, .keep), (3, .keep), (7, .keep), (8, .list), (9, .num 0 161)]
def hp26 : List (Nat × HW) := [(11, .vec1)]
end Go.Proofs.Tryz
