/- The grades' inner functions as known functions: the size step, the tolerance, the deviations, of both sides. -/
import Derived.Test.YtnkdndjhgoahgaaGreatDoorCBase
namespace Go.Proofs.Tryz
open Go.Ac

def steps8 : List (Int × Int) := [(1, 3000), (3001, 6000), (6001, 10000), (10001, 18000), (18001, 30000), (30001, 50000), (50001, 80000), (80001, 100000)]
def bases : List Int := [6, 8, 9, 11, 13, 16, 19, 22]
def factors : List Int := [7, 10, 16, 25, 40, 64, 100, 160]
def shifts : List Int := [50, 31, 16, 6, 0, 0, 2, 9, 15, 22]

def tolT (j : Nat) (g : Int) : Int := (bases.getD j 0 * factors.getD (g - 5).toNat 0 + 5) / 10

def shaftT (j : Nat) (l : Int) (g : Int) : Int × Int :=
  let t := tolT j g
  let s := bases.getD j 0 * shifts.getD l.toNat 0 / 10
  if l = 5 then (-(t / 2), t / 2) else if l < 5 then (-s - t, -s) else (s, s + t)

def devT (j : Nat) (h : Bool) (l g : Int) : Int × Int :=
  let x := shaftT j l g
  if h then (-x.2, -x.1) else x

def gIx : List AV → Option AV
  | [a] => (findIv a steps8 0).map fun x => .int .i64 x.1
  | _ => none

def gTol : List AV → Option AV
  | [a, .int .i64 g] => (findIv a steps8 0).bind fun x => if decide (5 ≤ g) && decide (g ≤ 12) then some (.int .i64 (tolT x.1 g)) else none
  | _ => none

def gDev : List AV → Option AV
  | [a, .agg [.bool h, .int .i64 l, .int .i64 g]] => (findIv a steps8 0).bind fun x =>
    if decide (0 ≤ l) && decide (l ≤ 9) && decide (5 ≤ g) && decide (g ≤ 12) then some (.agg [.int .i64 (devT x.1 h l g).1, .int .i64 (devT x.1 h l g).2]) else none
  | _ => none

theorem ixRun (n : Int) : allIv steps8 0 (fun j p => isInt ((run prog known 60).call 45 [.rng .i64 n p.1 p.2] (Bg 9)) j) = true := by kernel_rfl

theorem gIx_sound {f : FuncId} {prims : Prims} (h : ∀ n, allIv steps8 0 (fun j p => isInt ((run prog prims 60).call f [.rng .i64 n p.1 p.2] (Bg 9)) j) = true) (args : List AV) (v : AV) (hg : gIx args = some v) :
    ∃ args' v' n B', (∀ (ι : Emb) (xs : List Value), VRL ι args xs → VRL ι args' xs) ∧ (∀ (ι : Emb) (x : Value), VR ι v' x → VR ι v x) ∧ belowL 0 args' = true ∧ below 0 v' = true ∧
      (run prog prims n).call f args' (Bg prog.globals.size) = some (v', B', []) := by
  unfold gIx at hg
  split at hg
  · rename_i a
    simp only [Option.map_eq_some_iff] at hg
    obtain ⟨⟨j, p⟩, hf, rfl⟩ := hg
    obtain ⟨h1, _, h3⟩ := findIv_sound hf
    have h4 := allIv_sound (h (Ac.valOf a)) h3
    obtain ⟨B, h5⟩ := isInt_eq h4
    refine ⟨[.rng .i64 (Ac.valOf a) p.1 p.2], _, 60, B, fun ι xs hx => ?_, fun _ _ h => h, rfl, rfl, by rw [gsz]; simpa using h5⟩
    simp only [VRL] at hx ⊢
    obtain ⟨x, l, h6, h7, h8⟩ := hx
    exact ⟨x, l, h6, inIv_VR h1 h7, h8⟩
  · cases hg

def pIx : Prims := Prims.add (Prims.add known 45 gIx) 46 gIx

theorem atRun' (n : Int) : allIv steps8 0 (fun j p => isInt ((run prog (Prims.add known 45 gIx) 60).call 46 [.rng .i64 n p.1 p.2] (Bg 9)) j) = true := by kernel_rfl

theorem pIx_ok {A : Amb} (hG : prog.globals.size ≤ A.G) : PrimOK prog A pIx :=
  PrimOK.addw hmix hnum (PrimOK.addw hmix hnum (known_ok hG) hG func45 (by kernel_rfl) (gIx_sound ixRun)) hG func46 (by kernel_rfl) (gIx_sound atRun')

theorem tolRun (n : Int) : allIv steps8 0 (fun j p => (List.range 8).all fun k => isInt ((run prog pIx 60).call 44 [.rng .i64 n p.1 p.2, .int .i64 (5 + k : Nat)] (Bg 9)) (tolT j (5 + k : Nat))) = true := by kernel_rfl

theorem gTol_sound {f : FuncId} {prims : Prims} (h : ∀ n, allIv steps8 0 (fun j p => (List.range 8).all fun k => isInt ((run prog prims 60).call f [.rng .i64 n p.1 p.2, .int .i64 (5 + k : Nat)] (Bg 9)) (tolT j (5 + k : Nat))) = true)
    (args : List AV) (v : AV) (hg : gTol args = some v) :
    ∃ args' v' n B', (∀ (ι : Emb) (xs : List Value), VRL ι args xs → VRL ι args' xs) ∧ (∀ (ι : Emb) (x : Value), VR ι v' x → VR ι v x) ∧ belowL 0 args' = true ∧ below 0 v' = true ∧
      (run prog prims n).call f args' (Bg prog.globals.size) = some (v', B', []) := by
  unfold gTol at hg
  split at hg
  · rename_i a g
    simp only [Option.bind_eq_some_iff] at hg
    obtain ⟨⟨j, p⟩, hf, hg⟩ := hg
    split at hg
    · rename_i hc
      simp only [Bool.and_eq_true, decide_eq_true_eq] at hc
      obtain ⟨k, rfl, hk⟩ : ∃ k : Nat, g = ((5 + k : Nat) : Int) ∧ k < 8 := ⟨(g - 5).toNat, by omega, by omega⟩
      cases hg
      obtain ⟨h1, _, h3⟩ := findIv_sound hf
      have h4 := List.all_eq_true.1 (allIv_sound (h (Ac.valOf a)) h3) k (List.mem_range.2 hk)
      obtain ⟨B, h5⟩ := isInt_eq h4
      refine ⟨[.rng .i64 (Ac.valOf a) p.1 p.2, .int .i64 (5 + k : Nat)], _, 60, B, fun ι xs hx => ?_, fun _ _ h => h, rfl, rfl, by rw [gsz]; simpa using h5⟩
      simp only [VRL] at hx ⊢
      obtain ⟨x, l, h6, h7, h8⟩ := hx
      exact ⟨x, l, h6, inIv_VR h1 h7, h8⟩
    · cases hg
  · cases hg

theorem wideRun (n : Int) : allIv steps8 0 (fun j p => (List.range 8).all fun k => isInt ((run prog (Prims.add pIx 44 gTol) 60).call 47 [.rng .i64 n p.1 p.2, .int .i64 (5 + k : Nat)] (Bg 9)) (tolT j (5 + k : Nat))) = true := by kernel_rfl

def pTol : Prims := Prims.add (Prims.add pIx 44 gTol) 47 gTol

theorem pTol_ok {A : Amb} (hG : prog.globals.size ≤ A.G) : PrimOK prog A pTol :=
  PrimOK.addw hmix hnum (PrimOK.addw hmix hnum (pIx_ok hG) hG func44 (by kernel_rfl) (gTol_sound tolRun)) hG func47 (by kernel_rfl) (gTol_sound wideRun)

theorem stepsRun : (run prog pTol 20).call 69 [] (Bg 9) = some (.agg [.int .i64 3000, .int .i64 6, .int .i64 6000, .int .i64 8, .int .i64 10000, .int .i64 9, .int .i64 18000, .int .i64 11, .int .i64 30000, .int .i64 13, .int .i64 50000, .int .i64 16, .int .i64 80000, .int .i64 19, .int .i64 100000, .int .i64 22], Bg 9, []) := by kernel_rfl

def gSteps : List AV → Option AV
  | [] => some (.agg [.int .i64 3000, .int .i64 6, .int .i64 6000, .int .i64 8, .int .i64 10000, .int .i64 9, .int .i64 18000, .int .i64 11, .int .i64 30000, .int .i64 13, .int .i64 50000, .int .i64 16, .int .i64 80000, .int .i64 19, .int .i64 100000, .int .i64 22])
  | _ => none
def gLetters : List AV → Option AV
  | [] => some (.agg [.int .i64 50, .func (.func 96) [] [], .int .i64 31, .func (.func 96) [] [], .int .i64 16, .func (.func 96) [] [], .int .i64 6, .func (.func 96) [] [], .int .i64 0, .func (.func 96) [] [], .int .i64 0, .func (.func 97) [] [], .int .i64 2, .func (.func 98) [] [], .int .i64 9, .func (.func 98) [] [], .int .i64 15, .func (.func 98) [] [], .int .i64 22, .func (.func 98) [] []])
  | _ => none

def pSt : Prims := Prims.add (Prims.add pTol 69 gSteps) 68 gLetters

theorem lettersRun' : (run prog (Prims.add pTol 69 gSteps) 20).call 68 [] (Bg 9) = some (.agg [.int .i64 50, .func (.func 96) [] [], .int .i64 31, .func (.func 96) [] [], .int .i64 16, .func (.func 96) [] [], .int .i64 6, .func (.func 96) [] [], .int .i64 0, .func (.func 96) [] [], .int .i64 0, .func (.func 97) [] [], .int .i64 2, .func (.func 98) [] [], .int .i64 9, .func (.func 98) [] [], .int .i64 15, .func (.func 98) [] [], .int .i64 22, .func (.func 98) [] []], Bg 9, []) := by kernel_rfl

theorem pSt_ok {A : Amb} (hG : prog.globals.size ≤ A.G) : PrimOK prog A pSt := by
  refine PrimOK.add hmix hnum (PrimOK.add hmix hnum (pTol_ok hG) hG func69 (by kernel_rfl) ?_) hG func68 (by kernel_rfl) ?_
  · intro args v hg
    unfold gSteps at hg
    split at hg
    · cases hg; exact ⟨rfl, rfl, 20, _, by rw [gsz]; exact stepsRun⟩
    · cases hg
  · intro args v hg
    unfold gLetters at hg
    split at hg
    · cases hg; exact ⟨rfl, rfl, 20, _, by rw [gsz]; exact lettersRun'⟩
    · cases hg

/-- All letters and grades, at a step, on a side. -/
noncomputable def devAt (prims : Prims) (f : FuncId) (n : Int) (j : Nat) (p : Int × Int) (s : Bool) : Bool :=
  (List.range 10).all fun l => (List.range 8).all fun k =>
    isPair ((run prog prims 60).call f [.rng .i64 n p.1 p.2, .agg [.bool s, .int .i64 (l : Nat), .int .i64 (5 + k : Nat)]] (Bg 9)) (devT j s (l : Nat) (5 + k : Nat)).1 (devT j s (l : Nat) (5 + k : Nat)).2

theorem devRun0f (n : Int) : devAt (pSt) 41 n 0 (1, 3000) false = true := by kernel_rfl
theorem devRun0t (n : Int) : devAt (pSt) 41 n 0 (1, 3000) true = true := by kernel_rfl
theorem devRun1f (n : Int) : devAt (pSt) 41 n 1 (3001, 6000) false = true := by kernel_rfl
theorem devRun1t (n : Int) : devAt (pSt) 41 n 1 (3001, 6000) true = true := by kernel_rfl
theorem devRun2f (n : Int) : devAt (pSt) 41 n 2 (6001, 10000) false = true := by kernel_rfl
theorem devRun2t (n : Int) : devAt (pSt) 41 n 2 (6001, 10000) true = true := by kernel_rfl
theorem devRun3f (n : Int) : devAt (pSt) 41 n 3 (10001, 18000) false = true := by kernel_rfl
theorem devRun3t (n : Int) : devAt (pSt) 41 n 3 (10001, 18000) true = true := by kernel_rfl
theorem devRun4f (n : Int) : devAt (pSt) 41 n 4 (18001, 30000) false = true := by kernel_rfl
theorem devRun4t (n : Int) : devAt (pSt) 41 n 4 (18001, 30000) true = true := by kernel_rfl
theorem devRun5f (n : Int) : devAt (pSt) 41 n 5 (30001, 50000) false = true := by kernel_rfl
theorem devRun5t (n : Int) : devAt (pSt) 41 n 5 (30001, 50000) true = true := by kernel_rfl
theorem devRun6f (n : Int) : devAt (pSt) 41 n 6 (50001, 80000) false = true := by kernel_rfl
theorem devRun6t (n : Int) : devAt (pSt) 41 n 6 (50001, 80000) true = true := by kernel_rfl
theorem devRun7f (n : Int) : devAt (pSt) 41 n 7 (80001, 100000) false = true := by kernel_rfl
theorem devRun7t (n : Int) : devAt (pSt) 41 n 7 (80001, 100000) true = true := by kernel_rfl
theorem devRun (n : Int) (s : Bool) (j : Nat) (p : Int × Int) (h : steps8[j]? = some p) : devAt (pSt) 41 n j p s = true := by
  match j, s with
  | 0, false => cases h; exact devRun0f n
  | 0, true => cases h; exact devRun0t n
  | 1, false => cases h; exact devRun1f n
  | 1, true => cases h; exact devRun1t n
  | 2, false => cases h; exact devRun2f n
  | 2, true => cases h; exact devRun2t n
  | 3, false => cases h; exact devRun3f n
  | 3, true => cases h; exact devRun3t n
  | 4, false => cases h; exact devRun4f n
  | 4, true => cases h; exact devRun4t n
  | 5, false => cases h; exact devRun5f n
  | 5, true => cases h; exact devRun5t n
  | 6, false => cases h; exact devRun6f n
  | 6, true => cases h; exact devRun6t n
  | 7, false => cases h; exact devRun7f n
  | 7, true => cases h; exact devRun7t n
  | j + 8, _ => simp [steps8] at h
theorem awayRun0f (n : Int) : devAt (Prims.add pSt 41 gDev) 43 n 0 (1, 3000) false = true := by kernel_rfl
theorem awayRun0t (n : Int) : devAt (Prims.add pSt 41 gDev) 43 n 0 (1, 3000) true = true := by kernel_rfl
theorem awayRun1f (n : Int) : devAt (Prims.add pSt 41 gDev) 43 n 1 (3001, 6000) false = true := by kernel_rfl
theorem awayRun1t (n : Int) : devAt (Prims.add pSt 41 gDev) 43 n 1 (3001, 6000) true = true := by kernel_rfl
theorem awayRun2f (n : Int) : devAt (Prims.add pSt 41 gDev) 43 n 2 (6001, 10000) false = true := by kernel_rfl
theorem awayRun2t (n : Int) : devAt (Prims.add pSt 41 gDev) 43 n 2 (6001, 10000) true = true := by kernel_rfl
theorem awayRun3f (n : Int) : devAt (Prims.add pSt 41 gDev) 43 n 3 (10001, 18000) false = true := by kernel_rfl
theorem awayRun3t (n : Int) : devAt (Prims.add pSt 41 gDev) 43 n 3 (10001, 18000) true = true := by kernel_rfl
theorem awayRun4f (n : Int) : devAt (Prims.add pSt 41 gDev) 43 n 4 (18001, 30000) false = true := by kernel_rfl
theorem awayRun4t (n : Int) : devAt (Prims.add pSt 41 gDev) 43 n 4 (18001, 30000) true = true := by kernel_rfl
theorem awayRun5f (n : Int) : devAt (Prims.add pSt 41 gDev) 43 n 5 (30001, 50000) false = true := by kernel_rfl
theorem awayRun5t (n : Int) : devAt (Prims.add pSt 41 gDev) 43 n 5 (30001, 50000) true = true := by kernel_rfl
theorem awayRun6f (n : Int) : devAt (Prims.add pSt 41 gDev) 43 n 6 (50001, 80000) false = true := by kernel_rfl
theorem awayRun6t (n : Int) : devAt (Prims.add pSt 41 gDev) 43 n 6 (50001, 80000) true = true := by kernel_rfl
theorem awayRun7f (n : Int) : devAt (Prims.add pSt 41 gDev) 43 n 7 (80001, 100000) false = true := by kernel_rfl
theorem awayRun7t (n : Int) : devAt (Prims.add pSt 41 gDev) 43 n 7 (80001, 100000) true = true := by kernel_rfl
theorem awayRun (n : Int) (s : Bool) (j : Nat) (p : Int × Int) (h : steps8[j]? = some p) : devAt (Prims.add pSt 41 gDev) 43 n j p s = true := by
  match j, s with
  | 0, false => cases h; exact awayRun0f n
  | 0, true => cases h; exact awayRun0t n
  | 1, false => cases h; exact awayRun1f n
  | 1, true => cases h; exact awayRun1t n
  | 2, false => cases h; exact awayRun2f n
  | 2, true => cases h; exact awayRun2t n
  | 3, false => cases h; exact awayRun3f n
  | 3, true => cases h; exact awayRun3t n
  | 4, false => cases h; exact awayRun4f n
  | 4, true => cases h; exact awayRun4t n
  | 5, false => cases h; exact awayRun5f n
  | 5, true => cases h; exact awayRun5t n
  | 6, false => cases h; exact awayRun6f n
  | 6, true => cases h; exact awayRun6t n
  | 7, false => cases h; exact awayRun7f n
  | 7, true => cases h; exact awayRun7t n
  | j + 8, _ => simp [steps8] at h

theorem gDev_sound {f : FuncId} {prims : Prims} (h : ∀ n s j p, steps8[j]? = some p → devAt prims f n j p s = true) (args : List AV) (v : AV) (hg : gDev args = some v) :
    ∃ args' v' n B', (∀ (ι : Emb) (xs : List Value), VRL ι args xs → VRL ι args' xs) ∧ (∀ (ι : Emb) (x : Value), VR ι v' x → VR ι v x) ∧ belowL 0 args' = true ∧ below 0 v' = true ∧
      (run prog prims n).call f args' (Bg prog.globals.size) = some (v', B', []) := by
  unfold gDev at hg
  split at hg
  · rename_i a s l g
    simp only [Option.bind_eq_some_iff] at hg
    obtain ⟨⟨j, p⟩, hf, hg⟩ := hg
    split at hg
    · rename_i hc
      simp only [Bool.and_eq_true, decide_eq_true_eq] at hc
      obtain ⟨k, rfl, hk⟩ : ∃ k : Nat, g = ((5 + k : Nat) : Int) ∧ k < 8 := ⟨(g - 5).toNat, by omega, by omega⟩
      obtain ⟨m, rfl, hm⟩ : ∃ m : Nat, l = (m : Int) ∧ m < 10 := ⟨l.toNat, by omega, by omega⟩
      cases hg
      obtain ⟨h1, _, h3⟩ := findIv_sound hf
      have h4 := List.all_eq_true.1 (List.all_eq_true.1 (h (Ac.valOf a) s j p (by simpa using h3)) m (List.mem_range.2 hm)) k (List.mem_range.2 hk)
      have h5 := isPair_eq h4
      obtain ⟨B, h5⟩ := h5
      refine ⟨[.rng .i64 (Ac.valOf a) p.1 p.2, .agg [.bool s, .int .i64 (m : Nat), .int .i64 (5 + k : Nat)]], _, 60, B, fun ι xs hx => ?_, fun _ _ h => h, rfl, rfl, by rw [gsz]; exact h5⟩
      simp only [VRL] at hx ⊢
      obtain ⟨x, l, h6, h7, h8⟩ := hx
      exact ⟨x, l, h6, inIv_VR h1 h7, h8⟩
    · cases hg
  · cases hg

def pDev : Prims := Prims.add (Prims.add pSt 41 gDev) 43 gDev

theorem pDev_ok {A : Amb} (hG : prog.globals.size ≤ A.G) : PrimOK prog A pDev :=
  PrimOK.addw hmix hnum (PrimOK.addw hmix hnum (pSt_ok hG) hG func41 (by kernel_rfl) (gDev_sound devRun)) hG func43 (by kernel_rfl) (gDev_sound awayRun)
#print axioms pDev_ok
end Go.Proofs.Tryz
