/- The size step and the tolerance as known functions of the evaluator, by tables and at numbers that are not known. -/
import Derived.Test.YthpoofohoancnaaAwake
import Derived.Test.YthpoofohoancnaaAdPrim

namespace Go.Proofs.Try
open Go.Ad

def steps8 : List (Int × Int) := [(1, 3000), (3001, 6000), (6001, 10000), (10001, 18000), (18001, 30000), (30001, 50000), (50001, 80000), (80001, 100000)]
def bases : List Int := [6, 8, 9, 11, 13, 16, 19, 22]
def factors : List Int := [7, 10, 16, 25, 40, 64, 100, 160]
def shifts : List Int := [50, 31, 16, 6, 0, 0, 2, 9, 15, 22]

def tolT (j : Nat) (g : Int) : Int := (bases.getD j 0 * factors.getD (g - 5).toNat 0 + 5) / 10

def shaftT (j : Nat) (l : Int) (g : Int) : Int × Int :=
  let t := tolT j g
  let s := bases.getD j 0 * shifts.getD l.toNat 0 / 10
  if l = 5 then (-(t / 2), t / 2) else if l < 5 then (-s - t, -s) else (s, s + t)

def devT (j : Nat) (h : Bool) (l g : Int) : Int × Int :=
  let x := shaftT j l g
  if h then (-x.2, -x.1) else x

def gIx : List AV → Option AV
  | [a] => (findIv a steps8 0).map fun x => .int .i64 x.1
  | _ => none

def gTol : List AV → Option AV
  | [a, .int .i64 g] => (findIv a steps8 0).bind fun x => if decide (5 ≤ g) && decide (g ≤ 12) then some (.int .i64 (tolT x.1 g)) else none
  | _ => none

def gDev : List AV → Option AV
  | [a, .agg [.bool h, .int .i64 l, .int .i64 g]] => (findIv a steps8 0).bind fun x =>
    if decide (0 ≤ l) && decide (l ≤ 9) && decide (5 ≤ g) && decide (g ≤ 12) then some (.agg [.int .i64 (devT x.1 h l g).1, .int .i64 (devT x.1 h l g).2]) else none
  | _ => none

theorem ixRun (n : Int) : allIv steps8 0 (fun j p => isInt ((run prog known 60).call 81 [.rng .i64 n p.1 p.2] (Bg 0)) j) = true := by kernel_rfl

theorem gIx_sound {f : FuncId} {prims : Prims} (h : ∀ n, allIv steps8 0 (fun j p => isInt ((run prog prims 60).call f [.rng .i64 n p.1 p.2] (Bg 0)) j) = true) (args : List AV) (v : AV) (hg : gIx args = some v) :
    ∃ args' v' n B', (∀ (ι : Emb) (xs : List Value), VRL ι args xs → VRL ι args' xs) ∧ (∀ (ι : Emb) (x : Value), VR ι v' x → VR ι v x) ∧ belowL 0 args' = true ∧ below 0 v' = true ∧
      (run prog prims n).call f args' (Bg prog.globals.size) = some (v', B', []) := by
  unfold gIx at hg
  split at hg
  · rename_i a
    simp only [Option.map_eq_some_iff] at hg
    obtain ⟨⟨j, p⟩, hf, rfl⟩ := hg
    obtain ⟨h1, _, h3⟩ := findIv_sound hf
    have h4 := allIv_sound (h (Ad.valOf a)) h3
    obtain ⟨B, h5⟩ := isInt_eq h4
    refine ⟨[.rng .i64 (Ad.valOf a) p.1 p.2], _, 60, B, fun ι xs hx => ?_, fun _ _ h => h, rfl, rfl, by rw [gsz]; simpa using h5⟩
    simp only [VRL] at hx ⊢
    obtain ⟨x, l, h6, h7, h8⟩ := hx
    exact ⟨x, l, h6, inIv_VR h1 h7, h8⟩
  · cases hg

def pIx : Prims := Prims.add (Prims.add known 81 gIx) 83 gIx

theorem atRun' (n : Int) : allIv steps8 0 (fun j p => isInt ((run prog (Prims.add known 81 gIx) 60).call 83 [.rng .i64 n p.1 p.2] (Bg 0)) j) = true := by kernel_rfl

theorem pIx_ok {A : Amb} (hT : Tab A) (hG : prog.globals.size ≤ A.G) : PrimOK prog A pIx :=
  PrimOK.addw hmix hnum (PrimOK.addw hmix hnum (known_ok hT hG) hG func81 (by kernel_rfl) (gIx_sound ixRun)) hG func83 (by kernel_rfl) (gIx_sound atRun')

theorem tolRun (n : Int) : allIv steps8 0 (fun j p => (List.range 8).all fun k => isInt ((run prog pIx 60).call 79 [.rng .i64 n p.1 p.2, .int .i64 (5 + k : Nat)] (Bg 0)) (tolT j (5 + k : Nat))) = true := by kernel_rfl

theorem gTol_sound {f : FuncId} {prims : Prims} (h : ∀ n, allIv steps8 0 (fun j p => (List.range 8).all fun k => isInt ((run prog prims 60).call f [.rng .i64 n p.1 p.2, .int .i64 (5 + k : Nat)] (Bg 0)) (tolT j (5 + k : Nat))) = true)
    (args : List AV) (v : AV) (hg : gTol args = some v) :
    ∃ args' v' n B', (∀ (ι : Emb) (xs : List Value), VRL ι args xs → VRL ι args' xs) ∧ (∀ (ι : Emb) (x : Value), VR ι v' x → VR ι v x) ∧ belowL 0 args' = true ∧ below 0 v' = true ∧
      (run prog prims n).call f args' (Bg prog.globals.size) = some (v', B', []) := by
  unfold gTol at hg
  split at hg
  · rename_i a g
    simp only [Option.bind_eq_some_iff] at hg
    obtain ⟨⟨j, p⟩, hf, hg⟩ := hg
    split at hg
    · rename_i hc
      simp only [Bool.and_eq_true, decide_eq_true_eq] at hc
      obtain ⟨k, rfl, hk⟩ : ∃ k : Nat, g = ((5 + k : Nat) : Int) ∧ k < 8 := ⟨(g - 5).toNat, by omega, by omega⟩
      cases hg
      obtain ⟨h1, _, h3⟩ := findIv_sound hf
      have h4 := List.all_eq_true.1 (allIv_sound (h (Ad.valOf a)) h3) k (List.mem_range.2 hk)
      obtain ⟨B, h5⟩ := isInt_eq h4
      refine ⟨[.rng .i64 (Ad.valOf a) p.1 p.2, .int .i64 (5 + k : Nat)], _, 60, B, fun ι xs hx => ?_, fun _ _ h => h, rfl, rfl, by rw [gsz]; simpa using h5⟩
      simp only [VRL] at hx ⊢
      obtain ⟨x, l, h6, h7, h8⟩ := hx
      exact ⟨x, l, h6, inIv_VR h1 h7, h8⟩
    · cases hg
  · cases hg

theorem wideRun (n : Int) : allIv steps8 0 (fun j p => (List.range 8).all fun k => isInt ((run prog (Prims.add pIx 79 gTol) 60).call 61 [.rng .i64 n p.1 p.2, .int .i64 (5 + k : Nat)] (Bg 0)) (tolT j (5 + k : Nat))) = true := by kernel_rfl

def pTol : Prims := Prims.add (Prims.add pIx 79 gTol) 61 gTol

theorem pTol_ok {A : Amb} (hT : Tab A) (hG : prog.globals.size ≤ A.G) : PrimOK prog A pTol :=
  PrimOK.addw hmix hnum (PrimOK.addw hmix hnum (pIx_ok hT hG) hG func79 (by kernel_rfl) (gTol_sound tolRun)) hG func61 (by kernel_rfl) (gTol_sound wideRun)

/-- The size step. -/
def ixOf (s : Int) : Nat :=
  if s ≤ 3000 then 0 else if s ≤ 6000 then 1 else if s ≤ 10000 then 2 else if s ≤ 18000 then 3 else if s ≤ 30000 then 4 else if s ≤ 50000 then 5 else if s ≤ 80000 then 6 else 7

theorem ix_spec (s : Int) (h1 : 1 ≤ s) (h2 : s ≤ 100000) : ∃ p, steps8[ixOf s]? = some p ∧ p.1 ≤ s ∧ s ≤ p.2 ∧ ∀ n, findIv (.rng .i64 n p.1 p.2) steps8 0 = some (ixOf s, p) := by
  unfold ixOf
  split
  · exact ⟨(1, 3000), rfl, h1, by omega, fun n => by kernel_rfl⟩
  split
  · exact ⟨(3001, 6000), rfl, by simp only; omega, by omega, fun n => by kernel_rfl⟩
  split
  · exact ⟨(6001, 10000), rfl, by simp only; omega, by omega, fun n => by kernel_rfl⟩
  split
  · exact ⟨(10001, 18000), rfl, by simp only; omega, by omega, fun n => by kernel_rfl⟩
  split
  · exact ⟨(18001, 30000), rfl, by simp only; omega, by omega, fun n => by kernel_rfl⟩
  split
  · exact ⟨(30001, 50000), rfl, by simp only; omega, by omega, fun n => by kernel_rfl⟩
  split
  · exact ⟨(50001, 80000), rfl, by simp only; omega, by omega, fun n => by kernel_rfl⟩
  · exact ⟨(80001, 100000), rfl, by simp only; omega, by omega, fun n => by kernel_rfl⟩

theorem ix_lt (s : Int) : ixOf s < 8 := by unfold ixOf; (repeat' split) <;> omega

theorem tol_bounds (j : Nat) (k : Nat) (hj : j < 8) (hk : k < 8) : 1 ≤ tolT j (5 + k : Nat) ∧ tolT j (5 + k : Nat) ≤ 4000 := by
  have h : ((List.range 8).all fun j => (List.range 8).all fun k => decide (1 ≤ tolT j (5 + k : Nat) ∧ tolT j (5 + k : Nat) ≤ 4000)) = true := by kernel_rfl
  exact of_decide_eq_true (List.all_eq_true.1 (List.all_eq_true.1 h j (List.mem_range.2 hj)) k (List.mem_range.2 hk))

def sIx : List AV → Tr AV
  | [a] => match snum a with
    | some (.i64, s) => .br (decide (1 ≤ s ∧ s ≤ 100000)) (.leaf (.rng .i64 (ixOf s) 0 7)) .fail
    | _ => .fail
  | _ => .fail

def sTol : List AV → Tr AV
  | [a, b] => match snum a, snum b with
    | some (.i64, s), some (.i64, g) => .br (decide ((1 ≤ s ∧ s ≤ 100000) ∧ 5 ≤ g ∧ g ≤ 12)) (.leaf (.rng .i64 (tolT (ixOf s) g) 1 4000)) .fail
    | _, _ => .fail
  | _ => .fail

theorem Tr.br_get {α : Type} {b : Bool} {t : Tr α} {v : α} (h : (Tr.br b t .fail).get = some v) : b = true ∧ t.get = some v := by
  cases b with
  | true => exact ⟨rfl, h⟩
  | false => cases h

theorem Ca.prim {P : Program} {prims : Prims} {f : FuncId} {g : List AV → Option AV} {args : List AV} {B : Heap} {v : AV} (hf : prims.fn f = some fun args B => .of (only B (g args))) (hg : g args = some v) :
    Ca P prims f args B (v, B, []) := by
  refine Ev.call ⟨0, fun m _ => ?_⟩
  simp only [callF, hf, Tr.get_of, hg]
  rfl

theorem sIx_sound {f : FuncId} {prims : Prims} (hf : prims.fn f = some fun args B => .of (only B (gIx args))) (args : List AV) (v : AV) (hg : (sIx args).get = some v) :
    ∃ args' v' B', (∀ (ι : Emb) (xs : List Value), VRL ι args xs → VRL ι args' xs) ∧ (∀ (ι : Emb) (x : Value), VR ι v' x → VR ι v x) ∧ belowL 0 args' = true ∧ below 0 v' = true ∧
      Ca prog prims f args' (Bg prog.globals.size) (v', B', []) := by
  unfold sIx at hg
  split at hg
  · rename_i a
    split at hg
    · rename_i s h1
      obtain ⟨hc, hv⟩ := Tr.br_get hg
      cases hv
      obtain ⟨hs1, hs2⟩ := of_decide_eq_true hc
      obtain ⟨p, q1, q2, q3, q4⟩ := ix_spec s hs1 hs2
      have hlt := ix_lt s
      refine ⟨[.rng .i64 s p.1 p.2], .int .i64 (ixOf s), _, fun ι xs hx => ?_, fun ι x hx => ?_, rfl, rfl, Ca.prim hf (by simp only [gIx, q4, Option.map_some])⟩
      · simp only [VRL] at hx ⊢
        obtain ⟨x, l, h6, h7, h8⟩ := hx
        exact ⟨x, l, h6, by simp only [VR]; exact ⟨snum_VR h1 h7, q2, q3⟩, h8⟩
      · simp only [VR] at hx ⊢; exact ⟨hx, by omega, by omega⟩
    · cases hg
  · cases hg

theorem sTol_sound {f : FuncId} {prims : Prims} (hf : prims.fn f = some fun args B => .of (only B (gTol args))) (args : List AV) (v : AV) (hg : (sTol args).get = some v) :
    ∃ args' v' B', (∀ (ι : Emb) (xs : List Value), VRL ι args xs → VRL ι args' xs) ∧ (∀ (ι : Emb) (x : Value), VR ι v' x → VR ι v x) ∧ belowL 0 args' = true ∧ below 0 v' = true ∧
      Ca prog prims f args' (Bg prog.globals.size) (v', B', []) := by
  unfold sTol at hg
  split at hg
  · rename_i a b
    split at hg
    · rename_i s g h1 h2
      obtain ⟨hc, hv⟩ := Tr.br_get hg
      cases hv
      obtain ⟨⟨hs1, hs2⟩, hg1, hg2⟩ := of_decide_eq_true hc
      obtain ⟨p, q1, q2, q3, q4⟩ := ix_spec s hs1 hs2
      have hlt := ix_lt s
      obtain ⟨k, rfl, hk⟩ : ∃ k : Nat, g = ((5 + k : Nat) : Int) ∧ k < 8 := ⟨(g - 5).toNat, by omega, by omega⟩
      have hb := tol_bounds (ixOf s) k hlt hk
      refine ⟨[.rng .i64 s p.1 p.2, .int .i64 (5 + k : Nat)], .int .i64 (tolT (ixOf s) (5 + k : Nat)), _, fun ι xs hx => ?_, fun ι x hx => ?_, rfl, rfl, Ca.prim hf ?_⟩
      · simp only [VRL] at hx ⊢
        obtain ⟨x, l, h6, h7, x2, l2, h8, h9, h10⟩ := hx
        exact ⟨x, l, h6, by simp only [VR]; exact ⟨snum_VR h1 h7, q2, q3⟩, x2, l2, h8, by simp only [VR]; exact snum_VR h2 h9, h10⟩
      · simp only [VR] at hx ⊢; exact ⟨hx, hb.1, hb.2⟩
      · simp only [gTol, q4, Option.bind_some]
        rw [if_pos (by simp only [Bool.and_eq_true, decide_eq_true_eq]; omega)]
    · cases hg
  · cases hg

def pSymI : Prims := (pTol.addt 81 sIx).addt 83 sIx
def pSymT : Prims := (pSymI.addt 79 sTol).addt 61 sTol

theorem pSymT_ok {A : Amb} (hT : Tab A) (hG : prog.globals.size ≤ A.G) : PrimOK prog A pSymT := by
  have h0 := pTol_ok (A := A) hT hG
  have h1 := PrimOK.addt hmix hnum h0 hG func81 (by kernel_rfl) (sIx_sound rfl)
  have h2 := PrimOK.addt hmix hnum h1 hG func83 (by kernel_rfl) (sIx_sound rfl)
  have h3 := PrimOK.addt hmix hnum h2 hG func79 (by kernel_rfl) (sTol_sound rfl)
  exact PrimOK.addt hmix hnum h3 hG func61 (by kernel_rfl) (sTol_sound rfl)
#print axioms pSymT_ok
end Go.Proofs.Try
