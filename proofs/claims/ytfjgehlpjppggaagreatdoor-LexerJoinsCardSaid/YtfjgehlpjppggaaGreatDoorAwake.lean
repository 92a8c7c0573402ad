/- The lexer's program: the chapter's examples. -/
import Derived.Test.YtfjgehlpjppggaaGreatDoorGcd

namespace Go.Proofs.Tryz
open Go.Ad

def txA : List UInt8 := [104, 111, 108, 101, 32, 65, 32, 50, 53, 32, 72, 55, 47, 103, 54]
def txB : List UInt8 := [97, 44, 32, 40, 98, 44, 32, 99, 41, 44, 32, 100]
def rVal : AV := .tuple [.str [50, 53, 47, 50], .int .i64 0]
def rDec1 : AV := .tuple [.str [49, 50, 46, 53], .int .i64 0]
def rDec2 : AV := .tuple [.str [], .int .i64 14]
def rDec3 : AV := .tuple [.str [45, 49, 46, 55, 53], .int .i64 0]
def rNor : AV := .tuple [.str [104, 111, 108, 101, 32, 65, 32, 50, 53, 72, 55, 47, 103, 54], .int .i64 0, .int .i64 0]
theorem aw1 : (runK prog pG 400).call 27 [.str [49, 50, 46, 53, 48]] (Bg 8) finV = some rVal := by kernel_rfl
theorem aw2 : (runK prog pG 400).call 29 [.str [50, 53, 47, 50]] (Bg 8) finV = some rDec1 := by kernel_rfl
theorem aw3 : (runK prog pG 400).call 29 [.str [49, 47, 51]] (Bg 8) finV = some rDec2 := by kernel_rfl
theorem aw4 : (runK prog pG 400).call 29 [.str [45, 55, 47, 52]] (Bg 8) finV = some rDec3 := by kernel_rfl
theorem aw5 : (runK prog pG 400).call 21 [.str txA] (Bg 8) finV = some rNor := by kernel_rfl
def tVal : List (List AV × AV) := [([.str [49, 50, 46, 53, 48]], rVal)]
def tDec : List (List AV × AV) := [([.str [50, 53, 47, 50]], rDec1), ([.str [49, 47, 51]], rDec2), ([.str [45, 55, 47, 52]], rDec3)]
def tNor : List (List AV × AV) := [([.str txA], rNor)]
def spS (t : List UInt8) : SP := ⟨[.is (.str t)], List.replicate 8 .dead⟩
def sqS (n : Nat) : SP := ⟨[.is (.tuple [.slice (some (8, 0)) n n, .int .i64 0, .int .i64 0])], List.replicate 8 .dead ++ [.any]⟩
def cellsA : AObj := .cells [.int .i64 0, .str [104, 111, 108, 101], .int .i64 0, .int .i64 0, .str [65], .int .i64 5, .int .i64 1, .str [50, 53], .int .i64 7, .int .i64 0, .str [72, 55], .int .i64 10, .int .i64 2, .str [47], .int .i64 12, .int .i64 0, .str [103, 54], .int .i64 13, .int .i64 3, .str [], .int .i64 15] 3 true 52
def cellsB : AObj := .cells [.int .i64 0, .str [97], .int .i64 0, .int .i64 2, .str [44], .int .i64 1, .int .i64 2, .str [40], .int .i64 3, .int .i64 0, .str [98], .int .i64 4, .int .i64 2, .str [44], .int .i64 5, .int .i64 0, .str [99], .int .i64 7, .int .i64 2, .str [41], .int .i64 8, .int .i64 2, .str [44], .int .i64 9, .int .i64 0, .str [100], .int .i64 11, .int .i64 3, .str [], .int .i64 12] 3 true 52
theorem aw6 : (runK prog pG 400).call 18 [.str txA] (Bg 8) (finP (sqS 7) 8 []) = some [.o cellsA] := by kernel_rfl
theorem aw7 : (runK prog pG 400).call 18 [.str txB] (Bg 8) (finP (sqS 10) 8 []) = some [.o cellsB] := by kernel_rfl
def sqE (i e : Int) : SP := ⟨[.is (.tuple [.slice none 0 0, .int .i64 i, .int .i64 e])], List.replicate 8 .dead⟩
theorem aw8 : (runK prog pG 400).call 18 [.str [97, 32, 48, 49]] (Bg 8) (finP (sqE 2 3) 8 []) = some [] := by kernel_rfl
theorem aw9 : (runK prog pG 400).call 18 [.str [97, 32, 63]] (Bg 8) (finP (sqE 2 4) 8 []) = some [] := by kernel_rfl
theorem aw10 : (runK prog pG 400).call 18 [.str [51, 46]] (Bg 8) (finP (sqE 1 4) 8 []) = some [] := by kernel_rfl
def tScan : List (SP × SP × List Lf) := [(spS txA, sqS 7, [.o cellsA]), (spS txB, sqS 10, [.o cellsB]), (spS [97, 32, 48, 49], sqE 2 3, []), (spS [97, 32, 63], sqE 2 4, []), (spS [51, 46], sqE 1 4, [])]

def pA1 : Prims := ((pG.addt 27 (gTab tVal)).addt 29 (gTab tDec)).addt 21 (gTab tNor)
def pA : Prims := pA1.addh 18 (liftG 8 (closedP 8 tScan))

section
variable {A : Amb} (hT : Tab A) (hG : prog.globals.size ≤ A.G)
include hT hG

theorem pA_ok : PrimOK prog A pA := by
  have h0 := pG_ok hT hG
  refine PrimOK.addl (PrimOK.addtab hmix hnum h0 (PrimOK.addtab hmix hnum h0 (PrimOK.addtab hmix hnum h0 h0 hG func27 (by kernel_rfl) ?_) hG func29 (by kernel_rfl) ?_) hG func21 (by kernel_rfl) ?_) gsz func18 (by kernel_rfl) (closedP_ok hmix hnum h0 ?_)
  · intro p hp
    simp only [tVal, List.mem_cons, List.not_mem_nil, or_false] at hp
    subst hp
    exact ⟨rfl, rfl, 400, aw1⟩
  · intro p hp
    simp only [tDec, List.mem_cons, List.not_mem_nil, or_false] at hp
    rcases hp with rfl | rfl | rfl
    · exact ⟨rfl, rfl, 400, aw2⟩
    · exact ⟨rfl, rfl, 400, aw3⟩
    · exact ⟨rfl, rfl, 400, aw4⟩
  · intro p hp
    simp only [tNor, List.mem_cons, List.not_mem_nil, or_false] at hp
    subst hp
    exact ⟨rfl, rfl, 400, aw5⟩
  · intro p hp
    simp only [tScan, List.mem_cons, List.not_mem_nil, or_false] at hp
    have fr : ∀ (a b : SP) (l : List Lf), a.h = List.replicate 8 .dead → a.t = [.is (a.rho []).head!] → (∃ r, b.heap l = Bg 8 ++ r) → frP [] 0 (a.heap []) (b.heap l) := fun a b l h1 h2 ⟨r, h3⟩ => by
      rw [h3]
      have : a.heap [] = Bg 8 := by unfold SP.heap; rw [h1, h2]; rfl
      rw [this]
      simp [frP, Bg, List.replicate]
    rcases hp with rfl | rfl | rfl | rfl | rfl
    · exact ⟨rfl, rfl, rfl, fr _ _ _ rfl rfl ⟨[cellsA], rfl⟩, 400, aw6⟩
    · exact ⟨rfl, rfl, rfl, fr _ _ _ rfl rfl ⟨[cellsB], rfl⟩, 400, aw7⟩
    · exact ⟨rfl, rfl, rfl, fr _ _ _ rfl rfl ⟨[], rfl⟩, 400, aw8⟩
    · exact ⟨rfl, rfl, rfl, fr _ _ _ rfl rfl ⟨[], rfl⟩, 400, aw9⟩
    · exact ⟨rfl, rfl, rfl, fr _ _ _ rfl rfl ⟨[], rfl⟩, 400, aw10⟩
end

end Go.Proofs.Tryz
