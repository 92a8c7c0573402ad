/- The reference's list of all classes, and its search, as known functions. -/
import Derived.Test.YtnkdndjhgoahgaaGreatDoorFind6

namespace Go.Proofs.Tryz
open Go.Ad

noncomputable def code49 : Code := match f49.body with | some c => c | none => .skip
theorem code49_eq : f49.body = some code49 := by kernel_rfl
def cellF (x : Cl) : List AV := [.bool x.1, .int .i64 x.2.1, .int .i64 x.2.2]
def allC : List AV := flat 160 fun i => cellF (clsAt i)
theorem k49 : execK prog (runK prog pSym 400) noBps code49 (List.replicate 26 aundef) (Bg 9) (nrmK (fun _ => [(0, .list)]) (fun _ => []) 9 []) = some (.ret, .sslice 9 0 160 :: List.replicate 25 .bad, Bg 9 ++ [.cells allC 3 true 28], []) := by kernel_rfl
theorem allC_len : allC.length = 160 * 3 := by kernel_rfl

def vecAll : AObj := .vec 160 (fun i => rowF (clsAt i)) 3 28
def gAll (args : List AV) (B : Heap) : Tr (AV × Heap × List Nat) := match args with
  | [] => if 9 ≤ B.length then .leaf (.sslice B.length 0 160, B ++ [vecAll], []) else .fail
  | _ => .fail

theorem all_soft (ι : Emb) (hh : Array Obj) (l : Ad.Loc) (ho : OR ι hh l (.cells allC 3 true 28)) : OR ι hh l vecAll := by
  refine OR.soften (by omega) (fun i _ => ⟨rfl, rfl⟩) allC_len (fun i j a hi hj => ?_) ho
  have hj3 : j < 3 := (List.getElem?_eq_some_iff.1 hj).1
  have e : allC[i * 3 + j]? = (cellF (clsAt i))[j]? := flat_get hj3 (fun _ _ => rfl) hi
  rw [e]
  match j, hj3 with
  | 0, _ => cases hj; exact ⟨_, rfl, fun v hv => by simp only [VR] at hv ⊢; exact hv⟩
  | 1, _ => cases hj; exact ⟨_, rfl, fun v hv => by simp only [VR] at hv ⊢; exact hv⟩
  | 2, _ => cases hj; exact ⟨_, rfl, fun v hv => by simp only [VR] at hv ⊢; exact hv⟩

section
variable {A : Amb} (hT : Tab A) (hG : prog.globals.size ≤ A.G)
include hT hG

theorem all_ok {prims : Prims} (hp : PrimOK prog A prims) : PrimOK prog A (prims.addh 49 gAll) := by
  refine PrimOK.fresh2 hmix hnum hp func49 code49_eq fun args B v B' D h => ?_
  unfold gAll at h
  split at h
  · split at h
    · rename_i hB
      simp only [Tr.get, Option.some.injEq, Prod.mk.injEq] at h
      obtain ⟨rfl, rfl, rfl⟩ := h
      rw [gsz]
      have hs := SEB.of_KN (A := A) (B0 := Bg 9) hmix hnum (pSym_ok hT hG) (.none _) rfl k49
      have hw := Wk.obj (A := A) (B0 := Bg 9) (ρ := .sslice 9 0 160 :: List.replicate 25 .bad) (D := []) (B := Bg 9 ++ [.cells allC 3 true 28]) (b := 9) (o := .cells allC 3 true 28) (o' := vecAll) rfl (fun h => by simp [Bg] at h) (fun h => h) (fun h => h) all_soft
      refine ⟨[], [vecAll], [.sslice 9 0 160], .ret, .sslice 9 0 160 :: List.replicate 25 .bad, fun _ _ h => h, hB, ?_, fun id => by simp, by kernel_rfl, rfl, rfl, fun x o hx => ?_, rfl, ?_, rfl, rfl⟩
      · rw [ntmps49]; exact hs.wk_out hw
      · cases x with
        | zero => simp at hx; subst hx; rfl
        | succ x => simp at hx
      · simp [aresult, ren, shOut]
    · cases h
  · cases h

omit hT hG in
theorem blocks26 : (blocks code26).filter (fun p => p.1 == 0) = [(0, .loop r26)] := by kernel_rfl

noncomputable def hook26 (n a b : Int) (t : Bool) (L : List Cl) (ρ : List AV) (B : Heap) : Tr (AEx × List AV × Heap × List Nat) :=
  .br (propB (canon [0, 3, 7, 8, 9] 0 ρ = rho26 n (.slice none 0 0) (.int .i64 0) ∧ B = heap26 a b clsAt ∧ runA n a b = L ∧ L.isEmpty = t))
    (bif t then .leaf (.normal, rho26 n (.slice none 0 0) .bad, heap26 a b clsAt, []) else .leaf (.normal, rho26 n (.sslice 11 0 L.length) .bad, heap26 a b clsAt ++ [vecL rowF cl0 3 28 L], [])) .fail

theorem hook26_ok {n a b : Int} (hn : 1 ≤ n ∧ n ≤ 100000) (t : Bool) (L : List Cl) : ∀ ρ B e ρ' B' D, (hook26 n a b t L ρ B).get = some (e, ρ', B', D) → SEB prog A B (.block 0 (.loop r26)) ⟨ρ, B, []⟩ e ⟨ρ', B', D⟩ := by
  intro ρ B e ρ' B' D h
  obtain ⟨hc, hv⟩ := Tr.br_get0 h
  obtain ⟨h1, rfl, hL, ht⟩ := propB_eq hc
  have hs := SEB.block_exit (loop26 hT hG n a b (B0 := heap26 a b clsAt) rfl hn)
  rw [hL] at hs
  have hs2 := SEB.wk_in (wk26 (A := A) (B0 := heap26 a b clsAt) (n := n) (a := a) (b := b) (L := []) (i := .int .i64 0) (fun _ => int_to (by omega))) hs
  have hs3 := (SEB.wk_in (Wk.temps fun ι vs hv => by have := canon_VRL (live := [0, 3, 7, 8, 9]) (i := 0) hv; rwa [h1] at this) hs2).wk_out (wk26 (i' := .bad) fun _ => bad_to)
  cases t with
  | true =>
    simp only [cond_true, Tr.get, Option.some.injEq, Prod.mk.injEq] at hv
    obtain ⟨rfl, rfl, rfl, rfl⟩ := hv
    simpa only [st26, outL, blkL, ht, if_true, List.append_nil, List.isEmpty_nil] using hs3
  | false =>
    simp only [cond_false, Tr.get, Option.some.injEq, Prod.mk.injEq] at hv
    obtain ⟨rfl, rfl, rfl, rfl⟩ := hv
    simpa only [st26, outL, blkL, ht, Bool.false_eq_true, if_false, if_true, List.append_nil, List.isEmpty_nil] using hs3

def res26 (o : AV) : List AV := [.bad, .bad, .bad, .bad, o, .int .i64 0] ++ List.replicate 32 .bad
omit hT hG in
theorem k26t (n a b : Int) (L : List Cl) : execK prog (runK prog (pSym.addh 49 gAll) 60) (oneB 0 (hook26 n a b true L)) code26 (args25 n a b ++ List.replicate 36 aundef) (Bg 9) (nrmK (fun _ => [(4, .keep), (5, .keep)]) (fun _ => []) 9 []) =
    brK (propB (rho26 n (.slice none 0 0) (.int .i64 0) = rho26 n (.slice none 0 0) (.int .i64 0) ∧ heap26 a b clsAt = heap26 a b clsAt ∧ runA n a b = L ∧ L.isEmpty = true)) (some (.ret, res26 (.slice none 0 0), Bg 9, [])) none := by kernel_rfl
omit hT hG in
theorem k26f (n a b : Int) (L : List Cl) : execK prog (runK prog (pSym.addh 49 gAll) 60) (oneB 0 (hook26 n a b false L)) code26 (args25 n a b ++ List.replicate 36 aundef) (Bg 9) (nrmK (fun _ => [(4, .keep), (5, .keep)]) (fun _ => []) 9 []) =
    brK (propB (rho26 n (.slice none 0 0) (.int .i64 0) = rho26 n (.slice none 0 0) (.int .i64 0) ∧ heap26 a b clsAt = heap26 a b clsAt ∧ runA n a b = L ∧ L.isEmpty = false)) (some (.ret, res26 (.sslice 9 0 L.length), Bg 9 ++ [vecL rowF cl0 3 28 L], [])) none := by kernel_rfl

theorem find26_ok {prims : Prims} (hp : PrimOK prog A prims) (t : Bool) (L : List Cl) : PrimOK prog A (prims.addh 26 (gFind runA 28 t L)) := by
  refine gFind_ok hp func26 code26_eq t L (fun n a b hn hr he => ?_) (fun n a b hn hr he => ?_)
  · have hk := k26t n a b L
    rw [propB_true ⟨rfl, rfl, hr, he⟩, brT] at hk
    rw [ntmps26]
    exact ⟨_, SEB.of_KN hmix hnum (all_ok hT hG (pSym_ok hT hG)) (BlkOK.one blocks26 (hook26_ok hT hG hn true L)) rfl hk, by kernel_rfl⟩
  · have hk := k26f n a b L
    rw [propB_true ⟨rfl, rfl, hr, he⟩, brT] at hk
    rw [ntmps26]
    exact ⟨_, SEB.of_KN hmix hnum (all_ok hT hG (pSym_ok hT hG)) (BlkOK.one blocks26 (hook26_ok hT hG hn false L)) rfl hk, by kernel_rfl⟩
end
end Go.Proofs.Tryz
