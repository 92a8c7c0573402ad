/- The choice of a fit (f29): its range over the fits (f84). -/
import Derived.Test.YtmenhnnkibpidaaGreatDoorBest

namespace Go.Proofs.Tryz
open Go.Ad

noncomputable def code29 : Code := match f29.body with | some c => c | none => .skip
noncomputable def code84 : Code := match f84.body with | some c => c | none => .skip
theorem code29_eq : f29.body = some code29 := by kernel_rfl
theorem code84_eq : f84.body = some code84 := by kernel_rfl
def findR : Code → Option (Operand × Array Tmp × Code × Code)
  | .seq a b => (findR a).orElse fun _ => findR b
  | .cond _ a b => (findR a).orElse fun _ => findR b
  | .block _ c => findR c
  | .loop c => findR c
  | .scope c => findR c
  | .rangeFunc f ps a b => some (f, ps, a, b)
  | _ => none
noncomputable def as29 : Code := match findR code29 with | some (_, _, a, _) => a | none => .skip
noncomputable def body29 : Code := match findR code29 with | some (_, _, _, b) => b | none => .skip
noncomputable def q4 : Code := unLoop (findB 4 code84)
noncomputable def q2 : Code := unLoop (findB 2 code84)
noncomputable def q0 : Code := unLoop (findB 0 code84)
noncomputable def q0h : Code := fstC q0
noncomputable def q0i : Code := fstC (unBlk (fstC (sndC q0)))
noncomputable def q0n : Code := sndC (sndC q0)
noncomputable def q2h : Code := fstC q2
noncomputable def q2c : Code := fstC (sndC q2)
noncomputable def q2i : Code := fstC (unBlk (fstC (sndC (sndC q2))))
noncomputable def q2j : Code := fstC (sndC (unBlk (fstC (sndC (sndC q2)))))
noncomputable def q2n : Code := sndC (sndC (sndC q2))
noncomputable def qa : Code := fstC code84
noncomputable def qb : Code := fstC (sndC code84)
theorem q0_eq : q0 = .seq q0h (.seq (.block 1 (.seq q0i (.block 2 (.loop q2)))) q0n) := by kernel_rfl
theorem q2_eq : q2 = .seq q2h (.seq q2c (.seq (.block 3 (.seq q2i (.seq q2j (.block 4 (.loop q4))))) q2n)) := by kernel_rfl
theorem c84_eq : code84 = .seq qa (.seq qb (.block 0 (.loop q0))) := by kernel_rfl

def live84 : List Tmp := [0, 1, 3, 4, 5, 6, 14]
def rho84 (h l5 l g : AV) : List AV := [.func (.yield 14) [] [], .ptr (some (13, 0)), .bad, .int .i64 4, h, l5, g] ++ List.replicate 7 .bad ++ [l] ++ List.replicate 27 .bad
def rho29 : List AV := [.bad, .bad, .bad, .ptr (some (9, 0)), .ptr (some (10, 0)), .bad, .bad, .bad, .bad, .ptr (some (11, 0)), .ptr (some (12, 0))] ++ List.replicate 32 .bad ++ [.func (.func 84) [] [.ptr (some (13, 0))]] ++ List.replicate 36 .bad
noncomputable def loop29 : ALoop := ⟨.ready, none, rho29, #[44], as29, body29⟩
noncomputable def heap84 (n a b : Int) (w : AV) (z : List AV) : Heap := Bg 9 ++ [want2 a b, .cells zero7 0 true 25, .cells z 0 true 25, .cells [w] 0 true 3, .cells [.rng .i64 n 1 100000] 0 true 3, .loop loop29]
def newC (n h l g : Int) : List AV := [.rng .i64 n 1 100000, .bool true, .rng .i64 4 0 9, .rng .i64 h 5 12, .bool false, .rng .i64 l 0 9, .rng .i64 g 5 12]
abbrev W0 (w : Int) : AV := .rng .i64 w (-1) 215998

theorem k84 (n a b h l g w x0 x2 x3 x5 x6 : Int) (x1 : Bool) :
    execK prog (runK prog pChB 60) noBps q4 (rho84 (.rng .i64 h 5 12) (.rng .i64 l 0 9) (.rng .i64 l 0 9) (.rng .i64 g 5 13)) (heap84 n a b (W0 w) (gz x0 x2 x3 x5 x6 x1)) (cutK live84 15) =
    brK (decide (g ≤ 12)) (brK (inV n 4 h && inV n l g) (brK (okF n 4 h l g)
      (brK (decide (loC n 4 h l g ≥ a)) (brK (decide (hiC n 4 h l g ≤ b)) (brK (decide (hiC n 4 h l g - loC n 4 h l g > w))
        (some (.normal, rho84 (.rng .i64 h 5 12) (.rng .i64 l 0 9) (.rng .i64 l 0 9) (.rng .i64 (g + 1) 6 14), heap84 n a b (.rng .i64 (hiC n 4 h l g - loC n 4 h l g) (-199998) 199998) (newC n h l g), [14, 11, 12, 14]))
        (some (.normal, rho84 (.rng .i64 h 5 12) (.rng .i64 l 0 9) (.rng .i64 l 0 9) (.rng .i64 (g + 1) 6 14), heap84 n a b (W0 w) (gz x0 x2 x3 x5 x6 x1), [14, 14])))
        (some (.normal, rho84 (.rng .i64 h 5 12) (.rng .i64 l 0 9) (.rng .i64 l 0 9) (.rng .i64 (g + 1) 6 14), heap84 n a b (W0 w) (gz x0 x2 x3 x5 x6 x1), [14, 14])))
        (some (.normal, rho84 (.rng .i64 h 5 12) (.rng .i64 l 0 9) (.rng .i64 l 0 9) (.rng .i64 (g + 1) 6 14), heap84 n a b (W0 w) (gz x0 x2 x3 x5 x6 x1), [14, 14])))
      (some (.normal, rho84 (.rng .i64 h 5 12) (.rng .i64 l 0 9) (.rng .i64 l 0 9) (.rng .i64 (g + 1) 6 14), heap84 n a b (W0 w) (gz x0 x2 x3 x5 x6 x1), []))) none)
      (some (.exit 4, rho84 (.rng .i64 h 5 12) (.rng .i64 l 0 9) (.rng .i64 l 0 9) (.rng .i64 g 5 13), heap84 n a b (W0 w) (gz x0 x2 x3 x5 x6 x1), [])) := by kernel_rfl

theorem k0h (h : Int) (l5 l g : AV) (B : Heap) : execK prog (runK prog pChB 60) noBps q0h (rho84 (.rng .i64 h 5 13) l5 l g) B (keepK live84) = brK (decide (h ≤ 12)) (some (.normal, rho84 (.rng .i64 h 5 13) l5 l g, B, [])) (some (.exit 0, rho84 (.rng .i64 h 5 13) l5 l g, B, [])) := by kernel_rfl
theorem k0i (h l5 l g : AV) (B : Heap) : execK prog (runK prog pChB 60) noBps q0i (rho84 h l5 l g) B (keepK live84) = some (.normal, rho84 h l5 (.int .i64 0) g, B, []) := by kernel_rfl
theorem k0n (h : Int) (l5 l g : AV) (B : Heap) : execK prog (runK prog pChB 60) noBps q0n (rho84 (.rng .i64 h 5 12) l5 l g) B (keepK live84) = some (.normal, rho84 (.rng .i64 (h + 1) 6 13) l5 l g, B, []) := by kernel_rfl
def rho84x (h l5 l g c : AV) : List AV := [.func (.yield 14) [] [], .ptr (some (13, 0)), .bad, .int .i64 4, h, l5, g] ++ List.replicate 7 .bad ++ [l, c] ++ List.replicate 26 .bad
theorem k2h (l : Int) (h l5 g : AV) (B : Heap) : execK prog (runK prog pChB 60) noBps q2h (rho84 h l5 (.rng .i64 l 0 10) g) B (keepK (15 :: live84)) = some (.normal, rho84x h l5 (.rng .i64 l 0 10) g (.sbool (decide (l < 10))), B, []) := by kernel_rfl
theorem k2c (c : Bool) (h l5 l g : AV) (B : Heap) : execK prog (runK prog pChB 60) noBps q2c (rho84x h l5 l g (.sbool c)) B (keepK live84) = brK c (some (.normal, rho84 h l5 l g, B, [])) (some (.exit 2, rho84 h l5 l g, B, [])) := by kernel_rfl
theorem k2i (l : Int) (h l5 g : AV) (B : Heap) : execK prog (runK prog pChB 60) noBps q2i (rho84 h l5 (.rng .i64 l 0 10) g) B (keepK live84) = some (.normal, rho84 h (.rng .i64 l 0 10) (.rng .i64 l 0 10) g, B, []) := by kernel_rfl
theorem k2j (h l5 l g : AV) (B : Heap) : execK prog (runK prog pChB 60) noBps q2j (rho84 h l5 l g) B (keepK live84) = some (.normal, rho84 h l5 l (.int .i64 5), B, []) := by kernel_rfl
theorem k2n (l : Int) (h l5 g : AV) (B : Heap) : execK prog (runK prog pChB 60) noBps q2n (rho84 h l5 (.rng .i64 l 0 9) g) B (keepK live84) = some (.normal, rho84 h l5 (.rng .i64 (l + 1) 1 10) g, B, []) := by kernel_rfl

theorem rho84_wk {ι : Emb} {h l5 l g h' l5' l' g' : AV} (h1 : ∀ v, VR ι h v → VR ι h' v) (h2 : ∀ v, VR ι l5 v → VR ι l5' v) (h3 : ∀ v, VR ι l v → VR ι l' v) (h4 : ∀ v, VR ι g v → VR ι g' v) (vs : List Value)
    (hv : VRL ι (rho84 h l5 l g) vs) : VRL ι (rho84 h' l5' l' g') vs := by
  refine VRL.weaken (ρ := rho84 h l5 l g) rfl (fun j a' hj => ?_) hv
  by_cases e4 : j = 4
  · subst e4; cases hj; exact ⟨_, rfl, h1⟩
  · by_cases e5 : j = 5
    · subst e5; cases hj; exact ⟨_, rfl, h2⟩
    · by_cases e6 : j = 6
      · subst e6; cases hj; exact ⟨_, rfl, h4⟩
      · by_cases e14 : j = 14
        · subst e14; cases hj; exact ⟨_, rfl, h3⟩
        · refine ⟨a', ?_, self_to⟩
          have e : rho84 h' l5' l' g' = ((((rho84 h l5 l g).set 4 h').set 5 l5').set 6 g').set 14 l' := rfl
          rw [e, List.getElem?_set_ne (by omega), List.getElem?_set_ne (by omega), List.getElem?_set_ne (by omega), List.getElem?_set_ne (by omega)] at hj
          exact hj

theorem heap84_low {n a b : Int} {w w' : AV} {z z' : List AV} {c : Nat} (h1 : c ≠ 11) (h2 : c ≠ 12) : (heap84 n a b w' z')[c]? = (heap84 n a b w z)[c]? := by
  have e : heap84 n a b w' z' = ((heap84 n a b w z).set 11 (.cells z' 0 true 25)).set 12 (.cells [w'] 0 true 3) := rfl
  rw [e, List.getElem?_set_ne (by omega), List.getElem?_set_ne (by omega)]

theorem heap84_wk {A : Amb} {B0 : Heap} {n a b : Int} {w w' : AV} {z z' : List AV} {ρ : List AV} {D : List Nat} (hlen : z'.length = z.length) (hw : ∀ (ι : Emb) (i : Nat) (a' : AV), z'[i]? = some a' → ∃ a, z[i]? = some a ∧ ∀ v, VR ι a v → VR ι a' v)
    (hw2 : ∀ (ι : Emb) v, VR ι w v → VR ι w' v) (h11 : 11 ∈ D) (h12 : 12 ∈ D) : Wk A B0 ⟨ρ, heap84 n a b w z, D⟩ ⟨ρ, heap84 n a b w' z', D⟩ := by
  refine Wk.objs (fun _ h => h) rfl (fun c o2 hc => ?_) (fun c _ hn => heap84_low (fun e => hn (e ▸ h11)) (fun e => hn (e ▸ h12)))
  by_cases e1 : c = 11
  · subst e1; cases hc
    exact ⟨_, rfl, fun ι h l ho => OR.weaken hlen (hw ι) ho, fun h => h, fun h => h⟩
  · by_cases e2 : c = 12
    · subst e2; cases hc
      refine ⟨_, rfl, fun ι h l ho => OR.weaken (c := [w]) rfl (fun i a' hi => ?_) ho, fun h => h, fun h => h⟩
      cases i with
      | zero => cases hi; exact ⟨_, rfl, hw2 ι⟩
      | succ i => simp at hi
    · rw [heap84_low (w := w) (z := z) e1 e2] at hc
      exact ⟨o2, hc, fun _ _ _ h => h, fun h => h, fun h => h⟩

theorem newC_wk {n h l g w : Int} (hw : 0 ≤ w) : ∀ (ι : Emb) (i : Nat) (a' : AV), (bestC n (w, h, l, g))[i]? = some a' → ∃ a, (newC n h l g)[i]? = some a ∧ ∀ v, VR ι a v → VR ι a' v := fun ι i a' hi => by
  have e1 : ¬ w < 0 := by omega
  match i, hi with
  | 0, hi => cases hi; exact ⟨_, rfl, fun v hv => by simp only [if_neg e1]; simp only [VR] at hv ⊢; exact hv.1⟩
  | 1, hi => cases hi; exact ⟨_, rfl, fun v hv => by simp only [decide_eq_true hw]; simp only [VR] at hv ⊢; exact hv⟩
  | 2, hi => cases hi; exact ⟨_, rfl, fun v hv => by simp only [if_neg e1]; simp only [VR] at hv ⊢; exact hv.1⟩
  | 3, hi => cases hi; exact ⟨_, rfl, fun v hv => by simp only [VR] at hv ⊢; exact hv.1⟩
  | 4, hi => cases hi; exact ⟨_, rfl, fun v hv => by simp only [VR] at hv ⊢; exact hv⟩
  | 5, hi => cases hi; exact ⟨_, rfl, fun v hv => by simp only [VR] at hv ⊢; exact hv.1⟩
  | 6, hi => cases hi; exact ⟨_, rfl, fun v hv => by simp only [VR] at hv ⊢; exact hv.1⟩
  | i + 7, hi => simp [bestC] at hi

theorem zero_wk {n : Int} : ∀ (ι : Emb) (i : Nat) (a' : AV), (bestC n none4)[i]? = some a' → ∃ a, zero7[i]? = some a ∧ ∀ v, VR ι a v → VR ι a' v := fun ι i a' hi => by
  match i, hi with
  | 0, hi => cases hi; exact ⟨_, rfl, fun v hv => by simp only [VR] at hv ⊢; exact hv⟩
  | 1, hi => cases hi; exact ⟨_, rfl, fun v hv => by simp only [VR] at hv ⊢; exact hv⟩
  | 2, hi => cases hi; exact ⟨_, rfl, fun v hv => by simp only [VR] at hv ⊢; exact hv⟩
  | 3, hi => cases hi; exact ⟨_, rfl, fun v hv => by simp only [VR] at hv ⊢; exact hv⟩
  | 4, hi => cases hi; exact ⟨_, rfl, fun v hv => by simp only [VR] at hv ⊢; exact hv⟩
  | 5, hi => cases hi; exact ⟨_, rfl, fun v hv => by simp only [VR] at hv ⊢; exact hv⟩
  | 6, hi => cases hi; exact ⟨_, rfl, fun v hv => by simp only [VR] at hv ⊢; exact hv⟩
  | i + 7, hi => simp [bestC] at hi

def bst4 (n a b h l : Int) : Nat → Int → BS → BS
  | 0, _, s => s
  | k + 1, g, s => bst4 n a b h l k (g + 1) (stepB n a b h l g s)
def bst2 (n a b h : Int) : Nat → Int → BS → BS
  | 0, _, s => s
  | k + 1, l, s => bst2 n a b h k (l + 1) (bst4 n a b h l 8 5 s)
def bst0 (n a b : Int) : Nat → Int → BS → BS
  | 0, _, s => s
  | k + 1, h, s => bst0 n a b k (h + 1) (bst2 n a b h 10 0 s)
def bestF (n a b : Int) : BS := bst0 n a b 8 5 none4

theorem bst4_ge {n a b h l : Int} : ∀ (k : Nat) (g : Int) (s : BS), -1 ≤ s.1 → -1 ≤ (bst4 n a b h l k g s).1
  | 0, _, _, h => h
  | k + 1, g, _, h => bst4_ge k (g + 1) _ (stepB_ge h)
theorem bst2_ge {n a b h : Int} : ∀ (k : Nat) (l : Int) (s : BS), -1 ≤ s.1 → -1 ≤ (bst2 n a b h k l s).1
  | 0, _, _, h => h
  | k + 1, g, _, h => bst2_ge k (g + 1) _ (bst4_ge _ _ _ h)
theorem bst0_ge {n a b : Int} : ∀ (k : Nat) (l : Int) (s : BS), -1 ≤ s.1 → -1 ≤ (bst0 n a b k l s).1
  | 0, _, _, h => h
  | k + 1, g, _, h => bst0_ge k (g + 1) _ (bst2_ge _ _ _ h)

noncomputable def st84 (n a b : Int) (s : BS) (h l5 l g : AV) : St := ⟨rho84 h l5 l g, heap84 n a b (W0 s.1) (bestC n s), [11, 12, 14]⟩

theorem wk84 {A : Amb} {B0 : Heap} {n a b : Int} {s : BS} {h l5 l g h' l5' l' g' : AV} (h1 : ∀ (ι : Emb) v, VR ι h v → VR ι h' v) (h2 : ∀ (ι : Emb) v, VR ι l5 v → VR ι l5' v) (h3 : ∀ (ι : Emb) v, VR ι l v → VR ι l' v) (h4 : ∀ (ι : Emb) v, VR ι g v → VR ι g' v) :
    Wk A B0 (st84 n a b s h l5 l g) (st84 n a b s h' l5' l' g') := Wk.temps fun ι vs hv => rho84_wk (h1 ι) (h2 ι) (h3 ι) (h4 ι) vs hv

section
variable {A : Amb} (hT : Tab A) (hG : prog.globals.size ≤ A.G)
include hT hG

theorem q4_next (n a b h l g : Int) (s : BS) {B0 : Heap} (hB : B0.length = 15) (hs : -1 ≤ s.1) (hg : 5 ≤ g ∧ g ≤ 12) (hv1 : inV n 4 h = true) (hv2 : inV n l g = true) :
    SEB prog A B0 q4 (st84 n a b s (.rng .i64 h 5 12) (.rng .i64 l 0 9) (.rng .i64 l 0 9) (.rng .i64 g 5 13)) .normal
      (st84 n a b (stepB n a b h l g s) (.rng .i64 h 5 12) (.rng .i64 l 0 9) (.rng .i64 l 0 9) (.rng .i64 (g + 1) 5 13)) := by
  have hgr : ∀ (ι : Emb) (v : Value), VR ι (.rng .i64 (g + 1) 6 14) v → VR ι (.rng .i64 (g + 1) 5 13) v := fun ι v hv => rng_to (fun _ _ => by omega) v hv
  have hk := k84 n a b h l g s.1 (if s.1 < 0 then 0 else n) (if s.1 < 0 then 0 else 4) s.2.1 s.2.2.1 s.2.2.2 (decide (0 ≤ s.1))
  rw [show decide (g ≤ 12) = true from decide_eq_true hg.2, hv1, hv2, Bool.and_self, brK_t, brK_t] at hk
  have same : ∀ D' : List Nat, (∀ c, c ∈ D' → c = 14) → execK prog (runK prog pChB 60) noBps q4 (rho84 (.rng .i64 h 5 12) (.rng .i64 l 0 9) (.rng .i64 l 0 9) (.rng .i64 g 5 13)) (heap84 n a b (W0 s.1) (bestC n s)) (cutK live84 15) =
      some (.normal, rho84 (.rng .i64 h 5 12) (.rng .i64 l 0 9) (.rng .i64 l 0 9) (.rng .i64 (g + 1) 6 14), heap84 n a b (W0 s.1) (bestC n s), D') →
      SEB prog A B0 q4 (st84 n a b s (.rng .i64 h 5 12) (.rng .i64 l 0 9) (.rng .i64 l 0 9) (.rng .i64 g 5 13)) .normal
      (st84 n a b s (.rng .i64 h 5 12) (.rng .i64 l 0 9) (.rng .i64 l 0 9) (.rng .i64 (g + 1) 5 13)) := fun D' hD hr => by
    refine (SEB.of_KB (D := [11, 12, 14]) hmix hnum (pChB_ok hT hG) (.none _) hB hr).wk_out (Wk.trans (Wk.dirty (D2 := [11, 12, 14]) fun c hc => ?_) (wk84 (fun _ => self_to) (fun _ => self_to) (fun _ => self_to) hgr))
    rcases List.mem_append.1 hc with hc | hc
    · exact hc
    · simp [hD c hc]
  cases ho : okF n 4 h l g with
  | false =>
    rw [ho, brK_f] at hk
    have e : stepB n a b h l g s = s := by simp [stepB, ho]
    rw [e]
    exact same _ (by simp) hk
  | true =>
    rw [ho, brK_t] at hk
    simp only [stepB, ho, Bool.true_and]
    by_cases h1 : a ≤ loC n 4 h l g
    · by_cases h2 : hiC n 4 h l g ≤ b
      · by_cases h3 : s.1 < hiC n 4 h l g - loC n 4 h l g
        · rw [show decide (loC n 4 h l g ≥ a) = true from decide_eq_true h1, show decide (hiC n 4 h l g ≤ b) = true from decide_eq_true h2, show decide (hiC n 4 h l g - loC n 4 h l g > s.1) = true from decide_eq_true h3, brK_t, brK_t, brK_t] at hk
          have e : (decide (a ≤ loC n 4 h l g) && (decide (hiC n 4 h l g ≤ b) && decide (s.1 < hiC n 4 h l g - loC n 4 h l g))) = true := by
            rw [decide_eq_true h1, decide_eq_true h2, decide_eq_true h3]; rfl
          rw [if_pos e]
          refine (SEB.of_KB (D := [11, 12, 14]) hmix hnum (pChB_ok hT hG) (.none _) hB hk).wk_out (Wk.trans (Wk.dirty (D2 := [11, 12, 14]) fun c hc => ?_)
            (Wk.trans (heap84_wk (z' := bestC n (hiC n 4 h l g - loC n 4 h l g, h, l, g)) (w' := W0 (hiC n 4 h l g - loC n 4 h l g)) rfl (newC_wk (by omega)) (fun _ => rng_to fun _ _ => by omega) (by simp) (by simp)) (wk84 (s := (hiC n 4 h l g - loC n 4 h l g, h, l, g)) (fun _ => self_to) (fun _ => self_to) (fun _ => self_to) hgr)))
          simp only [List.mem_append, List.mem_cons, List.not_mem_nil, or_false] at hc ⊢
          omega
        · rw [show decide (loC n 4 h l g ≥ a) = true from decide_eq_true h1, show decide (hiC n 4 h l g ≤ b) = true from decide_eq_true h2, show decide (hiC n 4 h l g - loC n 4 h l g > s.1) = false from decide_eq_false h3, brK_t, brK_t, brK_f] at hk
          rw [decide_eq_false h3, Bool.and_false, Bool.and_false, if_neg Bool.false_ne_true]
          exact same _ (by simp) hk
      · rw [show decide (loC n 4 h l g ≥ a) = true from decide_eq_true h1, show decide (hiC n 4 h l g ≤ b) = false from decide_eq_false h2, brK_t, brK_f] at hk
        rw [decide_eq_false h2, Bool.false_and, Bool.and_false, if_neg Bool.false_ne_true]
        exact same _ (by simp) hk
    · rw [show decide (loC n 4 h l g ≥ a) = false from decide_eq_false h1, brK_f] at hk
      rw [decide_eq_false h1, Bool.false_and, if_neg Bool.false_ne_true]
      exact same _ (by simp) hk

theorem loopq4 (n a b h l : Int) {B0 : Heap} (hB : B0.length = 15) (hn : 1 ≤ n ∧ n ≤ 100000) (hh : 5 ≤ h ∧ h ≤ 12) (hl : 0 ≤ l ∧ l ≤ 9) : ∀ (k : Nat) (g : Int) (s : BS), g + k = 13 → 5 ≤ g → -1 ≤ s.1 →
    SEB prog A B0 (.loop q4) (st84 n a b s (.rng .i64 h 5 12) (.rng .i64 l 0 9) (.rng .i64 l 0 9) (.rng .i64 g 5 13)) (.exit 4) (st84 n a b (bst4 n a b h l k g s) (.rng .i64 h 5 12) .bad (.rng .i64 l 0 9) .bad)
  | 0, g, s, hk, hg, hs => by
    refine (SEB.loop_exit ?_ (by simp)).wk_out (wk84 (s := s) (l5 := .rng .i64 l 0 9) (g := .rng .i64 g 5 13) (fun _ => self_to) (fun _ => bad_to) (fun _ => self_to) (fun _ => bad_to))
    have hk := k84 n a b h l g s.1 (if s.1 < 0 then 0 else n) (if s.1 < 0 then 0 else 4) s.2.1 s.2.2.1 s.2.2.2 (decide (0 ≤ s.1))
    rw [show decide (g ≤ 12) = false from decide_eq_false (by omega), brK_f] at hk
    exact SEB.of_KB (D := [11, 12, 14]) hmix hnum (pChB_ok hT hG) (.none _) hB hk
  | k + 1, g, s, hk, hg, hs =>
    SEB.loop_next (q4_next hT hG n a b h l g s hB hs (by omega) (decide_eq_true ⟨hn, by omega, by omega⟩) (decide_eq_true ⟨hn, hl, by omega⟩)) (loopq4 n a b h l hB hn hh hl k (g + 1) _ (by omega) (by omega) (stepB_ge hs))

theorem q2_next (n a b h l : Int) (s : BS) {B0 : Heap} (hB : B0.length = 15) (hn : 1 ≤ n ∧ n ≤ 100000) (hh : 5 ≤ h ∧ h ≤ 12) (hl : 0 ≤ l ∧ l ≤ 9) (hs : -1 ≤ s.1) :
    SEB prog A B0 q2 (st84 n a b s (.rng .i64 h 5 12) .bad (.rng .i64 l 0 10) .bad) .normal (st84 n a b (bst4 n a b h l 8 5 s) (.rng .i64 h 5 12) .bad (.rng .i64 (l + 1) 0 10) .bad) := by
  rw [q2_eq]
  have s1 := SEB.of_K (B0 := B0) (D := [11, 12, 14]) hmix hnum (pChB_ok hT hG) (.none _) (k2h l (.rng .i64 h 5 12) .bad .bad (heap84 n a b (W0 s.1) (bestC n s)))
  have hk := k2c (decide (l < 10)) (.rng .i64 h 5 12) .bad (.rng .i64 l 0 10) .bad (heap84 n a b (W0 s.1) (bestC n s))
  rw [show brK (decide (l < 10)) _ _ = _ from congrArg (fun c => brK c _ _) (decide_eq_true (by omega)), brK_t] at hk
  have s2 := SEB.of_K (B0 := B0) (D := [11, 12, 14]) hmix hnum (pChB_ok hT hG) (.none _) hk
  have s3 := SEB.of_K (B0 := B0) (D := [11, 12, 14]) hmix hnum (pChB_ok hT hG) (.none _) (k2i l (.rng .i64 h 5 12) .bad .bad (heap84 n a b (W0 s.1) (bestC n s)))
  have s4 := SEB.of_K (B0 := B0) (D := [11, 12, 14]) hmix hnum (pChB_ok hT hG) (.none _) (k2j (.rng .i64 h 5 12) (.rng .i64 l 0 10) (.rng .i64 l 0 10) .bad (heap84 n a b (W0 s.1) (bestC n s)))
  have s5 := SEB.wk_in (wk84 (A := A) (n := n) (a := a) (b := b) (s := s) (h := .rng .i64 h 5 12) (l5 := .rng .i64 l 0 10) (l := .rng .i64 l 0 10) (g := .int .i64 5) (fun _ => self_to) (fun _ => rng_to fun _ _ => by omega) (fun _ => rng_to fun _ _ => by omega) (fun _ => int_to (by omega)))
    (loopq4 hT hG n a b h l hB hn hh hl 8 5 s (by omega) (by omega) hs)
  have s6 := SEB.of_K (B0 := B0) (D := [11, 12, 14]) hmix hnum (pChB_ok hT hG) (.none _) (k2n l (.rng .i64 h 5 12) .bad .bad (heap84 n a b (W0 (bst4 n a b h l 8 5 s).1) (bestC n (bst4 n a b h l 8 5 s))))
  exact (SEB.seq s1 (SEB.seq s2 (SEB.seq (SEB.block_other (SEB.seq s3 (SEB.seq s4 (SEB.block_exit s5))) (by simp)) s6))).wk_out (wk84 (fun _ => self_to) (fun _ => self_to) (fun _ => rng_to fun _ _ => by omega) (fun _ => self_to))

theorem loopq2 (n a b h : Int) {B0 : Heap} (hB : B0.length = 15) (hn : 1 ≤ n ∧ n ≤ 100000) (hh : 5 ≤ h ∧ h ≤ 12) : ∀ (k : Nat) (l : Int) (s : BS), l + k = 10 → 0 ≤ l → -1 ≤ s.1 →
    SEB prog A B0 (.loop q2) (st84 n a b s (.rng .i64 h 5 12) .bad (.rng .i64 l 0 10) .bad) (.exit 2) (st84 n a b (bst2 n a b h k l s) (.rng .i64 h 5 12) .bad .bad .bad)
  | 0, l, s, hk, hl, hs => by
    refine (SEB.loop_exit ?_ (by simp)).wk_out (wk84 (s := s) (l := .rng .i64 l 0 10) (fun _ => self_to) (fun _ => self_to) (fun _ => bad_to) (fun _ => self_to))
    rw [q2_eq]
    have s1 := SEB.of_K (B0 := B0) (D := [11, 12, 14]) hmix hnum (pChB_ok hT hG) (.none _) (k2h l (.rng .i64 h 5 12) .bad .bad (heap84 n a b (W0 s.1) (bestC n s)))
    have hk := k2c (decide (l < 10)) (.rng .i64 h 5 12) .bad (.rng .i64 l 0 10) .bad (heap84 n a b (W0 s.1) (bestC n s))
    rw [show brK (decide (l < 10)) _ _ = _ from congrArg (fun c => brK c _ _) (decide_eq_false (by omega)), brK_f] at hk
    exact SEB.seq s1 (SEB.seq_exit (SEB.of_K (D := [11, 12, 14]) hmix hnum (pChB_ok hT hG) (.none _) hk) (by simp))
  | k + 1, l, s, hk, hl, hs =>
    SEB.loop_next (q2_next hT hG n a b h l s hB hn hh (by omega) hs) (loopq2 n a b h hB hn hh k (l + 1) _ (by omega) (by omega) (bst4_ge _ _ _ hs))

theorem q0_next (n a b h : Int) (s : BS) {B0 : Heap} (hB : B0.length = 15) (hn : 1 ≤ n ∧ n ≤ 100000) (hh : 5 ≤ h ∧ h ≤ 12) (hs : -1 ≤ s.1) :
    SEB prog A B0 q0 (st84 n a b s (.rng .i64 h 5 13) .bad .bad .bad) .normal (st84 n a b (bst2 n a b h 10 0 s) (.rng .i64 (h + 1) 5 13) .bad .bad .bad) := by
  rw [q0_eq]
  have hk := k0h h .bad .bad .bad (heap84 n a b (W0 s.1) (bestC n s))
  rw [show brK (decide (h ≤ 12)) _ _ = _ from congrArg (fun c => brK c _ _) (decide_eq_true hh.2), brK_t] at hk
  have s1 := SEB.of_K (B0 := B0) (D := [11, 12, 14]) hmix hnum (pChB_ok hT hG) (.none _) hk
  have s2 := SEB.of_K (B0 := B0) (D := [11, 12, 14]) hmix hnum (pChB_ok hT hG) (.none _) (k0i (.rng .i64 h 5 13) .bad .bad .bad (heap84 n a b (W0 s.1) (bestC n s)))
  have s3 := SEB.wk_in (wk84 (A := A) (n := n) (a := a) (b := b) (s := s) (h := .rng .i64 h 5 13) (l5 := .bad) (l := .int .i64 0) (g := .bad) (fun _ => rng_to fun _ _ => by omega) (fun _ => self_to) (fun _ => int_to (by omega)) (fun _ => self_to))
    (loopq2 hT hG n a b h hB hn hh 10 0 s (by omega) (by omega) hs)
  have s4 := SEB.of_K (B0 := B0) (D := [11, 12, 14]) hmix hnum (pChB_ok hT hG) (.none _) (k0n h .bad .bad .bad (heap84 n a b (W0 (bst2 n a b h 10 0 s).1) (bestC n (bst2 n a b h 10 0 s))))
  exact (SEB.seq s1 (SEB.seq (SEB.block_other (SEB.seq s2 (SEB.block_exit s3)) (by simp)) s4)).wk_out (wk84 (fun _ => rng_to fun _ _ => by omega) (fun _ => self_to) (fun _ => self_to) (fun _ => self_to))

theorem loopq0 (n a b : Int) {B0 : Heap} (hB : B0.length = 15) (hn : 1 ≤ n ∧ n ≤ 100000) : ∀ (k : Nat) (h : Int) (s : BS), h + k = 13 → 5 ≤ h → -1 ≤ s.1 →
    SEB prog A B0 (.loop q0) (st84 n a b s (.rng .i64 h 5 13) .bad .bad .bad) (.exit 0) (st84 n a b (bst0 n a b k h s) .bad .bad .bad .bad)
  | 0, h, s, hk, hl, hs => by
    refine (SEB.loop_exit ?_ (by simp)).wk_out (wk84 (s := s) (h := .rng .i64 h 5 13) (fun _ => bad_to) (fun _ => self_to) (fun _ => self_to) (fun _ => self_to))
    rw [q0_eq]
    have hk := k0h h .bad .bad .bad (heap84 n a b (W0 s.1) (bestC n s))
    rw [show brK (decide (h ≤ 12)) _ _ = _ from congrArg (fun c => brK c _ _) (decide_eq_false (by omega)), brK_f] at hk
    exact SEB.seq_exit (SEB.of_K (D := [11, 12, 14]) hmix hnum (pChB_ok hT hG) (.none _) hk) (by simp)
  | k + 1, h, s, hk, hl, hs =>
    SEB.loop_next (q0_next hT hG n a b h s hB hn (by omega) hs) (loopq0 n a b hB hn k (h + 1) _ (by omega) (by omega) (bst2_ge _ _ _ hs))

def args84 : List AV := [.func (.yield 14) [] [], .ptr (some (13, 0))]
omit hT hG in
theorem kqa (n a b : Int) : execK prog (runK prog pChB 60) noBps qa (args84 ++ List.replicate 40 aundef) (heap84 n a b (.int .i64 (-1)) zero7) (cutK [0, 1, 3] 15) = some (.normal, rho84 .bad .bad .bad .bad, heap84 n a b (.int .i64 (-1)) zero7, []) := by kernel_rfl
omit hT hG in
theorem kqb (B : Heap) : execK prog (runK prog pChB 60) noBps qb (rho84 .bad .bad .bad .bad) B (keepK live84) = some (.normal, rho84 (.int .i64 5) .bad .bad .bad, B, []) := by kernel_rfl

theorem body84 (n a b : Int) (hn : 1 ≤ n ∧ n ≤ 100000) : SEB prog A (heap84 n a b (.int .i64 (-1)) zero7) code84 ⟨args84 ++ List.replicate 40 aundef, heap84 n a b (.int .i64 (-1)) zero7, []⟩ .normal (st84 n a b (bestF n a b) .bad .bad .bad .bad) := by
  rw [c84_eq]
  have s1 := SEB.of_KB (B0 := heap84 n a b (.int .i64 (-1)) zero7) (D := []) hmix hnum (pChB_ok hT hG) (.none _) rfl (kqa n a b)
  have s2 := SEB.of_K (B0 := heap84 n a b (.int .i64 (-1)) zero7) (D := []) hmix hnum (pChB_ok hT hG) (.none _) (kqb (heap84 n a b (.int .i64 (-1)) zero7))
  have s3 := loopq0 (B0 := heap84 n a b (.int .i64 (-1)) zero7) hT hG n a b rfl hn 8 5 none4 (by omega) (by omega) (by decide)
  refine SEB.seq s1 (SEB.seq (s2.wk_out ?_) (SEB.block_exit s3))
  refine Wk.trans (Wk.dirty (D2 := [11, 12, 14]) fun c hc => (by simp at hc)) (Wk.trans (heap84_wk (z' := bestC n none4) (w' := W0 (-1)) rfl zero_wk (fun _ => int_to (by omega)) (by simp) (by simp)) ?_)
  exact wk84 (s := none4) (h := .int .i64 5) (fun _ => int_to (by omega)) (fun _ => self_to) (fun _ => self_to) (fun _ => self_to)

noncomputable def g84 (n a b : Int) (args : List AV) (B : Heap) : Tr (AV × Heap × List Nat) :=
  .br (propB (args = args84 ∧ B = heap84 n a b (.int .i64 (-1)) zero7)) (.leaf (.tuple [], heap84 n a b (W0 (bestF n a b).1) (bestC n (bestF n a b)), [11, 12, 14])) .fail
noncomputable def p84 (n a b : Int) : Prims := pChB.addh 84 (g84 n a b)

theorem p84_ok (n a b : Int) (hn : 1 ≤ n ∧ n ≤ 100000) : PrimOK prog A (p84 n a b) := by
  refine PrimOK.body (pChB_ok hT hG) func84 code84_eq fun args B v B' D h => ?_
  obtain ⟨hc, hv⟩ := Tr.br_get h
  obtain ⟨rfl, rfl⟩ := propB_eq hc
  simp only [Tr.get, Option.some.injEq, Prod.mk.injEq] at hv
  obtain ⟨rfl, rfl, rfl⟩ := hv
  refine ⟨⟨Nat.le_refl _, fun c _ hc => heap84_low (fun e => hc (by simp [e])) (fun e => hc (by simp [e]))⟩, args84, .normal, st84 n a b (bestF n a b) .bad .bad .bad .bad, [], fun _ _ h => h, ?_, fun id => by simp, by rw [results84]; rfl, rfl, rfl, rfl⟩
  rw [ntmps84]
  exact body84 hT hG n a b hn

noncomputable def rf29 : Code := match findR code29 with | some (f, ps, a, b) => .rangeFunc f ps a b | none => .skip
omit hT hG in
theorem blocks29 : (blocks code29).filter (fun p => p.1 == 2) = [(2, rf29)] := by kernel_rfl
def heap29 (n a b : Int) (w : AV) (z : List AV) : Heap := Bg 9 ++ [want2 a b, .cells zero7 0 true 25, .cells z 0 true 25, .cells [w] 0 true 3, .cells [.rng .i64 n 1 100000] 0 true 3]
def live29 : List Tmp := [3, 4, 9, 10, 43]

omit hT hG in
theorem krf (n a b : Int) : execK prog (runK prog (p84 n a b) 60) noBps rf29 rho29 (heap29 n a b (.int .i64 (-1)) zero7) (cutK live29 14) =
    brK (propB (args84 = args84 ∧ heap84 n a b (.int .i64 (-1)) zero7 = heap84 n a b (.int .i64 (-1)) zero7)) (some (.normal, rho29, heap29 n a b (W0 (bestF n a b).1) (bestC n (bestF n a b)), [11, 12])) none := by kernel_rfl

omit hT hG in
theorem heap29_low {n a b : Int} {w w' : AV} {z z' : List AV} {c : Nat} (h1 : c ≠ 11) (h2 : c ≠ 12) : (heap29 n a b w' z')[c]? = (heap29 n a b w z)[c]? := by
  have e : heap29 n a b w' z' = ((heap29 n a b w z).set 11 (.cells z' 0 true 25)).set 12 (.cells [w'] 0 true 3) := rfl
  rw [e, List.getElem?_set_ne (by omega), List.getElem?_set_ne (by omega)]

noncomputable def g29 (n a b : Int) (ρ : List AV) (B : Heap) : Tr (AEx × List AV × Heap × List Nat) :=
  .br (propB (canon live29 0 ρ = rho29 ∧ B = heap29 n a b (.int .i64 (-1)) zero7)) (.leaf (.normal, rho29, heap29 n a b (W0 (bestF n a b).1) (bestC n (bestF n a b)), [11, 12])) .fail

theorem g29_ok (n a b : Int) (hn : 1 ≤ n ∧ n ≤ 100000) (ρ : List AV) (B : Heap) (e : AEx) (ρ' : List AV) (B' : Heap) (D : List Nat) (h : (g29 n a b ρ B).get = some (e, ρ', B', D)) :
    AFr B B' D ∧ SEB prog A B (.block 2 rf29) ⟨ρ, B, []⟩ e ⟨ρ', B', D⟩ := by
  obtain ⟨hc, hv⟩ := Tr.br_get h
  obtain ⟨h1, rfl⟩ := propB_eq hc
  simp only [Tr.get, Option.some.injEq, Prod.mk.injEq] at hv
  obtain ⟨rfl, rfl, rfl, rfl⟩ := hv
  refine ⟨⟨Nat.le_refl _, fun c _ hc => heap29_low (fun e => hc (by simp [e])) (fun e => hc (by simp [e]))⟩, SEB.wk_in (Wk.temps fun ι vs hv => by have := canon_VRL (live := live29) (i := 0) hv; rwa [h1] at this) (SEB.block_other ?_ (by simp))⟩
  have hk := krf n a b
  rw [propB_true ⟨rfl, rfl⟩, brK_t] at hk
  exact SEB.of_KB (D := []) hmix hnum (p84_ok hT hG n a b hn) (.none _) rfl hk

noncomputable def p29 (n a b : Int) : Prims := pChB.addb 29 2 (g29 n a b)
theorem p29_ok (n a b : Int) (hn : 1 ≤ n ∧ n ≤ 100000) : PrimOK prog A (p29 n a b) := PrimOK.addb (pChB_ok hT hG) func29 code29_eq blocks29 (g29_ok hT hG n a b hn)
end
end Go.Proofs.Tryz
