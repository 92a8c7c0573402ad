/- The reference's choice (f30): its loop over the list. -/
import Derived.Test.YtmenhnnkibpidaaGreatDoorClr

namespace Go.Proofs.Tryz
open Go.Ad

theorem code30_some : ∃ c, f30.body = some c := ⟨_, rfl⟩
noncomputable def code30 : Code := match f30.body with | some c => c | none => .skip
noncomputable def block30 : Code := match findB 0 code30 with | some c => c | none => .skip
noncomputable def round30 : Code := unLoop (findB 0 code30)
theorem code30_eq : f30.body = some code30 := by kernel_rfl
theorem block30_eq : block30 = .loop round30 := by kernel_rfl
theorem blocks30 : (blocks code30).filter (fun p => p.1 == 0) = [(0, .loop round30)] := by kernel_rfl

def live30 : List Tmp := [3, 4, 7, 8, 9, 10]
def rho30 (bb : Nat) (l w i : AV) : List AV := [.bad, .bad, .bad, .ptr (some (9, 0)), .ptr (some (10, 0)), .bad, .bad, l, .ptr (some (bb, 0)), w, i] ++ List.replicate 79 .bad

def zero7 : List AV := [.int .i64 0, .bool false, .int .i64 0, .int .i64 0, .bool false, .int .i64 0, .int .i64 0]
def want2 (a b : Int) : AObj := .cells [.rng .i64 a (-100000) 100000, .rng .i64 b (-100000) 100000] 0 true 27
def heap30 (n a b : Int) (k : Nat) (R : Nat → Int × Int × Int) (z : List AV) : Heap := Bg 9 ++ [want2 a b, .cells zero7 0 true 35, .vec k (fun i => row54 n (R i)) 7 35, .cells z 0 true 35]
def heap30e (a b : Int) : Heap := Bg 9 ++ [want2 a b, .cells zero7 0 true 35, .cells zero7 0 true 35]

def gz (x0 x2 x3 x5 x6 : Int) (x1 : Bool) : List AV := [.sint .i64 x0, .sbool x1, .sint .i64 x2, .sint .i64 x3, .sbool false, .sint .i64 x5, .sint .i64 x6]
def clr2 (n : Int) (x : Int × Int × Int) : AObj := .cells [.rng .i64 (loC n 4 x.1 x.2.1 x.2.2) (-107999) 107999, .rng .i64 (hiC n 4 x.1 x.2.1 x.2.2) (-107999) 107999] 0 true 27
def wid (n : Int) (x : Int × Int × Int) : Int := hiC n 4 x.1 x.2.1 x.2.2 - loC n 4 x.1 x.2.1 x.2.2

theorem r30 (n a b w i x0 x2 x3 x5 x6 : Int) (x1 : Bool) (k : Nat) (R : Nat → Int × Int × Int) :
    execK prog (runK prog pClr 60) noBps round30 (rho30 12 (.sslice 11 0 k) (.rng .i64 w (-1) 215998) (.rng .i64 i 0 640)) (heap30 n a b k R (gz x0 x2 x3 x5 x6 x1)) (keepK live30) =
    brK (decide (i < (k : Int))) (brK (decide (0 ≤ i ∧ i < (k : Int))) (brK (decide (0 + i.toNat < k))
      (brK (inV n 4 (R (0 + i.toNat)).1 && inV n (R (0 + i.toNat)).2.1 (R (0 + i.toNat)).2.2)
        (brK (decide (loC n 4 (R (0 + i.toNat)).1 (R (0 + i.toNat)).2.1 (R (0 + i.toNat)).2.2 ≥ a))
          (brK (decide (hiC n 4 (R (0 + i.toNat)).1 (R (0 + i.toNat)).2.1 (R (0 + i.toNat)).2.2 ≤ b))
            (brK (decide (wid n (R (0 + i.toNat)) > w))
              (brK (decide (0 ≤ i ∧ i < (k : Int))) (brK (decide (0 + i.toNat < k))
                (some (.normal, rho30 12 (.sslice 11 0 k) (.rng .i64 (wid n (R (0 + i.toNat))) (-215998) 215998) (.rng .i64 (i + 1) 1 641), heap30 n a b k R (row54 n (R (0 + i.toNat))) ++ [clr2 n (R (0 + i.toNat))], [13, 12])) none) none)
              (some (.normal, rho30 12 (.sslice 11 0 k) (.rng .i64 w (-1) 215998) (.rng .i64 (i + 1) 1 641), heap30 n a b k R (gz x0 x2 x3 x5 x6 x1) ++ [clr2 n (R (0 + i.toNat))], [13])))
            (some (.normal, rho30 12 (.sslice 11 0 k) (.rng .i64 w (-1) 215998) (.rng .i64 (i + 1) 1 641), heap30 n a b k R (gz x0 x2 x3 x5 x6 x1) ++ [clr2 n (R (0 + i.toNat))], [13])))
          (some (.normal, rho30 12 (.sslice 11 0 k) (.rng .i64 w (-1) 215998) (.rng .i64 (i + 1) 1 641), heap30 n a b k R (gz x0 x2 x3 x5 x6 x1) ++ [clr2 n (R (0 + i.toNat))], [13])))
        none) none) none)
      (some (.exit 0, rho30 12 (.sslice 11 0 k) (.rng .i64 w (-1) 215998) (.rng .i64 i 0 640), heap30 n a b k R (gz x0 x2 x3 x5 x6 x1), [])) := by kernel_rfl

theorem r30e (a b : Int) : execK prog (runK prog pClr 60) noBps round30 (rho30 11 (.slice none 0 0) (.int .i64 (-1)) (.int .i64 0)) (heap30e a b) (keepK live30) =
    some (.exit 0, rho30 11 (.slice none 0 0) (.int .i64 (-1)) (.int .i64 0), heap30e a b, []) := by kernel_rfl

theorem rho30_to {ι ι2 : Emb} {bb : Nat} {l w i l' w' i' : AV} (h9 : ι2 9 = ι 9) (h10 : ι2 10 = ι 10) (hb : ι2 bb = ι bb) (h1 : ∀ v, VR ι l v → VR ι2 l' v) (h2 : ∀ v, VR ι w v → VR ι2 w' v) (h3 : ∀ v, VR ι i v → VR ι2 i' v) (vs : List Value)
    (hv : VRL ι (rho30 bb l w i) vs) : VRL ι2 (rho30 bb l' w' i') vs := by
  have hp : ∀ c : Nat, ι2 c = ι c → ∀ v, VR ι (.ptr (some (c, 0))) v → VR ι2 (.ptr (some (c, 0))) v := fun c hc v hv => by simp only [VR] at hv ⊢; rw [hc]; exact hv
  refine VRL.weaken (ρ := rho30 bb l w i) rfl (fun j a' hj => ?_) hv
  match j, hj with
  | 0, hj => cases hj; exact ⟨_, rfl, fun _ _ => by simp only [VR]⟩
  | 1, hj => cases hj; exact ⟨_, rfl, fun _ _ => by simp only [VR]⟩
  | 2, hj => cases hj; exact ⟨_, rfl, fun _ _ => by simp only [VR]⟩
  | 3, hj => cases hj; exact ⟨_, rfl, hp 9 h9⟩
  | 4, hj => cases hj; exact ⟨_, rfl, hp 10 h10⟩
  | 5, hj => cases hj; exact ⟨_, rfl, fun _ _ => by simp only [VR]⟩
  | 6, hj => cases hj; exact ⟨_, rfl, fun _ _ => by simp only [VR]⟩
  | 7, hj => cases hj; exact ⟨_, rfl, h1⟩
  | 8, hj => cases hj; exact ⟨_, rfl, hp bb hb⟩
  | 9, hj => cases hj; exact ⟨_, rfl, h2⟩
  | 10, hj => cases hj; exact ⟨_, rfl, h3⟩
  | j + 11, hj =>
    simp only [rho30, List.cons_append, List.nil_append, List.getElem?_cons_succ, List.getElem?_replicate] at hj
    split at hj
    · rename_i hlt
      cases hj
      exact ⟨.bad, by simp only [rho30, List.cons_append, List.nil_append, List.getElem?_cons_succ, List.getElem?_replicate, if_pos hlt], fun _ _ => by simp only [VR]⟩
    · cases hj

theorem bgX {m : Nat} {X : Heap} (hX : ∀ o, o ∈ X → OBel m o) : ∀ (b : Nat) (o : AObj), (Bg 9 ++ X)[b]? = some o → OBel m o := fun b o hb => by
  rw [List.getElem?_append] at hb
  split at hb
  · simp only [Bg, List.getElem?_replicate] at hb
    split at hb
    · cases hb; trivial
    · cases hb
  · exact hX _ (List.mem_of_getElem? hb)

theorem heap30_bel {n a b : Int} {k : Nat} {R : Nat → Int × Int × Int} {z : List AV} (hz : belowL 13 z = true) : ∀ (c : Nat) (o : AObj), (heap30 n a b k R z)[c]? = some o → OBel 13 o :=
  bgX fun o ho => by
    simp only [List.mem_cons, List.not_mem_nil, or_false] at ho
    rcases ho with rfl | rfl | rfl | rfl
    · rfl
    · rfl
    · trivial
    · exact hz

theorem last_low {P : Heap} {x y : AObj} {c : Nat} (h : c ≠ P.length) : (P ++ [x])[c]? = (P ++ [y])[c]? := by
  by_cases hlt : c < P.length
  · rw [List.getElem?_append_left hlt, List.getElem?_append_left hlt]
  · rw [List.getElem?_eq_none (by simp; omega), List.getElem?_eq_none (by simp; omega)]
theorem heap30_low {n a b : Int} {k : Nat} {R : Nat → Int × Int × Int} {z z' : List AV} {c : Nat} (h : c ≠ 12) : (heap30 n a b k R z')[c]? = (heap30 n a b k R z)[c]? :=
  last_low (P := Bg 9 ++ [want2 a b, .cells zero7 0 true 35, .vec k (fun i => row54 n (R i)) 7 35]) h

/-- The best fit's cells are weakened. -/
theorem heap30_wk {A : Amb} {B0 : Heap} {n a b : Int} {k : Nat} {R : Nat → Int × Int × Int} {z z' : List AV} {ρ : List AV} (hlen : z'.length = z.length) (hw : ∀ (ι : Emb) (i : Nat) (a' : AV), z'[i]? = some a' → ∃ a, z[i]? = some a ∧ ∀ v, VR ι a v → VR ι a' v) :
    Wk A B0 ⟨ρ, heap30 n a b k R z, [12]⟩ ⟨ρ, heap30 n a b k R z', [12]⟩ := by
  refine Wk.objs (fun _ h => h) rfl (fun c o2 hc => ?_) (fun c hc hn => ?_)
  · by_cases h : c = 12
    · subst h
      cases hc
      exact ⟨_, rfl, fun ι h l ho => OR.weaken hlen (hw ι) ho, fun h => h, fun h => h⟩
    · rw [heap30_low (z := z) h] at hc
      exact ⟨o2, hc, fun _ _ _ h => h, fun h => h, fun h => h⟩
  · exact heap30_low fun e => hn (by simp [e])

theorem heap30_set {A : Amb} {B0 : Heap} {n a b : Int} {k : Nat} {R : Nat → Int × Int × Int} {x : Int × Int × Int} {ρ : List AV} (hw : 0 ≤ wid n x) :
    Wk A B0 ⟨ρ, heap30 n a b k R (row54 n x), [12]⟩ ⟨ρ, heap30 n a b k R (bestC n (wid n x, x)), [12]⟩ := by
  refine heap30_wk rfl fun ι i a' hi => ?_
  have e1 : ¬ wid n x < 0 := by omega
  match i, hi with
  | 0, hi => cases hi; exact ⟨_, rfl, fun v hv => by simp only [if_neg e1]; exact hv⟩
  | 1, hi => cases hi; exact ⟨_, rfl, fun v hv => by simp only [decide_eq_true hw]; exact hv⟩
  | 2, hi => cases hi; exact ⟨_, rfl, fun v hv => by simp only [if_neg e1]; exact hv⟩
  | 3, hi => cases hi; exact ⟨_, rfl, fun v hv => hv⟩
  | 4, hi => cases hi; exact ⟨_, rfl, fun v hv => hv⟩
  | 5, hi => cases hi; exact ⟨_, rfl, fun v hv => hv⟩
  | 6, hi => cases hi; exact ⟨_, rfl, fun v hv => hv⟩
  | i + 7, hi => simp [bestC] at hi

def none4 : BS := (-1, 0, 0, 0)
theorem heap30_first {A : Amb} {B0 : Heap} {n a b : Int} {k : Nat} {R : Nat → Int × Int × Int} {ρ : List AV} :
    Wk A B0 ⟨ρ, heap30 n a b k R zero7, [12]⟩ ⟨ρ, heap30 n a b k R (bestC n none4), [12]⟩ := by
  refine heap30_wk rfl fun ι i a' hi => ?_
  match i, hi with
  | 0, hi => cases hi; exact ⟨_, rfl, fun v hv => by simp only [VR] at hv ⊢; exact hv⟩
  | 1, hi => cases hi; exact ⟨_, rfl, fun v hv => by simp only [VR] at hv ⊢; exact hv⟩
  | 2, hi => cases hi; exact ⟨_, rfl, fun v hv => by simp only [VR] at hv ⊢; exact hv⟩
  | 3, hi => cases hi; exact ⟨_, rfl, fun v hv => by simp only [VR] at hv ⊢; exact hv⟩
  | 4, hi => cases hi; exact ⟨_, rfl, fun v hv => by simp only [VR] at hv ⊢; exact hv⟩
  | 5, hi => cases hi; exact ⟨_, rfl, fun v hv => by simp only [VR] at hv ⊢; exact hv⟩
  | 6, hi => cases hi; exact ⟨_, rfl, fun v hv => by simp only [VR] at hv ⊢; exact hv⟩
  | i + 7, hi => simp [bestC] at hi

theorem bestC_bel (n : Int) (s : BS) : belowL 13 (bestC n s) = true := rfl

theorem Wk.step {A : Amb} {n a b : Int} {k : Nat} {R : Nat → Int × Int × Int} {z z0 : List AV} {w i w' i' : AV} {X : Heap} (hz : belowL 13 z = true) (h2 : ∀ (ι ι2 : Emb) v, VR ι w v → VR ι2 w' v) (h3 : ∀ (ι ι2 : Emb) v, VR ι i v → VR ι2 i' v) :
    Wk A (heap30 n a b k R z0) ⟨rho30 12 (.sslice 11 0 k) w i, heap30 n a b k R z ++ X, [12]⟩ ⟨rho30 12 (.sslice 11 0 k) w' i', heap30 n a b k R z, [12]⟩ :=
  Wk.drop rfl (heap30_bel hz) fun ι ι2 h l hl => rho30_to (h 9 (by simp [heap30, Bg])) (h 10 (by simp [heap30, Bg])) (h 12 (by simp [heap30, Bg])) (sslice_to (h 11 (by simp [heap30, Bg]))) (h2 ι ι2) (h3 ι ι2) l hl

def foldB (n a b : Int) (L : List (Int × Int × Int)) (s : BS) : BS := L.foldl (fun s x => stepB n a b x.1 x.2.1 x.2.2 s) s

section
variable {A : Amb} (hT : Tab A) (hG : prog.globals.size ≤ A.G)
include hT hG

theorem round30_next (n a b : Int) (k : Nat) (R : Nat → Int × Int × Int) (z0 : List AV) (i : Nat) (s : BS) (hik : i < k) (hi : i < 640) (hs : -1 ≤ s.1)
    (hv1 : inV n 4 (R i).1 = true) (hv2 : inV n (R i).2.1 (R i).2.2 = true) (ho : okF n 4 (R i).1 (R i).2.1 (R i).2.2 = true) :
    SEB prog A (heap30 n a b k R z0) round30 ⟨rho30 12 (.sslice 11 0 k) (.rng .i64 s.1 (-1) 215998) (.rng .i64 i 0 640), heap30 n a b k R (bestC n s), [12]⟩ .normal
      ⟨rho30 12 (.sslice 11 0 k) (.rng .i64 (stepB n a b (R i).1 (R i).2.1 (R i).2.2 s).1 (-1) 215998) (.rng .i64 ((i + 1 : Nat) : Int) 0 640), heap30 n a b k R (bestC n (stepB n a b (R i).1 (R i).2.1 (R i).2.2 s)), [12]⟩ := by
  have hk := r30 n a b s.1 i (if s.1 < 0 then 0 else n) (if s.1 < 0 then 0 else 4) s.2.1 s.2.2.1 s.2.2.2 (decide (0 ≤ s.1)) k R
  have e0 : 0 + (i : Int).toNat = i := by omega
  have d1 : decide ((i : Int) < (k : Int)) = true := decide_eq_true (by omega)
  have d2 : decide (0 ≤ (i : Int) ∧ (i : Int) < (k : Int)) = true := decide_eq_true (by omega)
  have d3 : decide (0 + (i : Int).toNat < k) = true := decide_eq_true (by omega)
  rw [d1, d2, d3, brK_t, brK_t, brK_t] at hk
  rw [e0, hv1, hv2, Bool.and_self, brK_t] at hk
  have hI : ∀ (ι ι2 : Emb) v, VR ι (.rng .i64 ((i : Int) + 1) 1 641) v → VR ι2 (.rng .i64 ((i + 1 : Nat) : Int) 0 640) v := fun ι ι2 v hv => by
    simp only [VR] at hv ⊢; exact ⟨by rw [hv.1]; rfl, by omega⟩
  have same : ∀ r, execK prog (runK prog pClr 60) noBps round30 (rho30 12 (.sslice 11 0 k) (.rng .i64 s.1 (-1) 215998) (.rng .i64 i 0 640)) (heap30 n a b k R (bestC n s)) (keepK live30) = some r →
      r = (.normal, rho30 12 (.sslice 11 0 k) (.rng .i64 s.1 (-1) 215998) (.rng .i64 ((i : Int) + 1) 1 641), heap30 n a b k R (bestC n s) ++ [clr2 n (R i)], [13]) →
      SEB prog A (heap30 n a b k R z0) round30 ⟨rho30 12 (.sslice 11 0 k) (.rng .i64 s.1 (-1) 215998) (.rng .i64 i 0 640), heap30 n a b k R (bestC n s), [12]⟩ .normal
      ⟨rho30 12 (.sslice 11 0 k) (.rng .i64 s.1 (-1) 215998) (.rng .i64 ((i + 1 : Nat) : Int) 0 640), heap30 n a b k R (bestC n s), [12]⟩ := fun r hr e => by
    subst e
    refine (SEB.of_K (D := [12]) hmix hnum (pClr_ok hT hG) (.none _) hr).wk_out (Wk.trans (Wk.dset (D2 := [12]) fun c hc hl => ?_) (Wk.step (bestC_bel n s) (fun _ _ => same_to) hI))
    simp only [List.mem_append, List.mem_cons, List.not_mem_nil, or_false] at hc ⊢
    have : (heap30 n a b k R z0).length = 13 := rfl
    omega
  simp only [stepB, ho, Bool.true_and]
  by_cases h1 : a ≤ loC n 4 (R i).1 (R i).2.1 (R i).2.2
  · by_cases h2 : hiC n 4 (R i).1 (R i).2.1 (R i).2.2 ≤ b
    · by_cases h3 : s.1 < hiC n 4 (R i).1 (R i).2.1 (R i).2.2 - loC n 4 (R i).1 (R i).2.1 (R i).2.2
      · rw [decide_eq_true (show _ ≥ a from h1), decide_eq_true h2, decide_eq_true (show wid n (R i) > s.1 from h3), brK_t, brK_t, brK_t, brK_t, brK_t] at hk
        have e : (decide (a ≤ loC n 4 (R i).1 (R i).2.1 (R i).2.2) && (decide (hiC n 4 (R i).1 (R i).2.1 (R i).2.2 ≤ b) && decide (s.1 < hiC n 4 (R i).1 (R i).2.1 (R i).2.2 - loC n 4 (R i).1 (R i).2.1 (R i).2.2))) = true := by
          rw [decide_eq_true h1, decide_eq_true h2, decide_eq_true h3]; rfl
        rw [if_pos e]
        refine (SEB.of_K (D := [12]) hmix hnum (pClr_ok hT hG) (.none _) hk).wk_out (Wk.trans (Wk.dset (D2 := [12]) fun c hc hl => ?_)
          (Wk.trans (Wk.step (w' := .rng .i64 (wid n (R i)) (-1) 215998) rfl (fun _ _ => rng_to fun _ _ => ?_) hI) (heap30_set ?_)))
        · simp only [List.mem_append, List.mem_cons, List.not_mem_nil, or_false] at hc ⊢
          have : (heap30 n a b k R z0).length = 13 := rfl
          omega
        · have : s.1 < wid n (R i) := h3
          omega
        · have : s.1 < wid n (R i) := h3
          omega
      · rw [decide_eq_true (show _ ≥ a from h1), decide_eq_true h2, decide_eq_false (show ¬ wid n (R i) > s.1 from h3), brK_t, brK_t, brK_f] at hk
        rw [decide_eq_false h3, Bool.and_false, Bool.and_false, if_neg Bool.false_ne_true]
        exact same _ hk rfl
    · rw [decide_eq_true (show _ ≥ a from h1), decide_eq_false h2, brK_t, brK_f] at hk
      rw [decide_eq_false h2, Bool.false_and, Bool.and_false, if_neg Bool.false_ne_true]
      exact same _ hk rfl
  · rw [decide_eq_false (show ¬ _ ≥ a from h1), brK_f] at hk
    rw [decide_eq_false h1, Bool.false_and, if_neg Bool.false_ne_true]
    exact same _ hk rfl

omit hT hG in
theorem run4_mem {n h l : Int} {P : Int × Int × Int → Prop} (hP : ∀ g, 5 ≤ g → g ≤ 12 → okF n 4 h l g = true → P (h, l, g)) : ∀ (k : Nat) (g : Int) (L : List (Int × Int × Int)), 5 ≤ g → g + k ≤ 13 → (∀ x, x ∈ L → P x) → ∀ x, x ∈ run4 n h l k g L → P x
  | 0, _, _, _, _, hL => hL
  | k + 1, g, L, h1, h2, hL => run4_mem hP k (g + 1) _ (by omega) (by omega) fun x hx => by
    simp only [step54] at hx
    split at hx
    · rename_i ho
      rcases List.mem_append.1 hx with hx | hx
      · exact hL x hx
      · simp only [List.mem_singleton] at hx; subst hx; exact hP g h1 (by omega) ho
    · exact hL x hx
omit hT hG in
theorem run2_mem {n h : Int} {P : Int × Int × Int → Prop} (hP : ∀ l g, 0 ≤ l → l ≤ 9 → 5 ≤ g → g ≤ 12 → okF n 4 h l g = true → P (h, l, g)) : ∀ (k : Nat) (l : Int) (L : List (Int × Int × Int)), 0 ≤ l → l + k ≤ 10 → (∀ x, x ∈ L → P x) → ∀ x, x ∈ run2 n h k l L → P x
  | 0, _, _, _, _, hL => hL
  | k + 1, l, L, h1, h2, hL => run2_mem hP k (l + 1) _ (by omega) (by omega) (run4_mem (fun g => hP l g h1 (by omega)) 8 5 L (by omega) (by omega) hL)
omit hT hG in
theorem run0_mem {n : Int} {P : Int × Int × Int → Prop} (hP : ∀ h l g, 5 ≤ h → h ≤ 12 → 0 ≤ l → l ≤ 9 → 5 ≤ g → g ≤ 12 → okF n 4 h l g = true → P (h, l, g)) : ∀ (k : Nat) (h : Int) (L : List (Int × Int × Int)), 5 ≤ h → h + k ≤ 13 → (∀ x, x ∈ L → P x) → ∀ x, x ∈ run0 n k h L → P x
  | 0, _, _, _, _, hL => hL
  | k + 1, h, L, h1, h2, hL => run0_mem hP k (h + 1) _ (by omega) (by omega) (run2_mem (fun l g => hP h l g h1 (by omega)) 10 0 L (by omega) (by omega) hL)
omit hT hG in
theorem list54_mem {n : Int} (hn : 1 ≤ n ∧ n ≤ 100000) : ∀ x, x ∈ list54 n → inV n 4 x.1 = true ∧ inV n x.2.1 x.2.2 = true ∧ okF n 4 x.1 x.2.1 x.2.2 = true :=
  run0_mem (P := fun x => inV n 4 x.1 = true ∧ inV n x.2.1 x.2.2 = true ∧ okF n 4 x.1 x.2.1 x.2.2 = true) (fun h l g h1 h2 h3 h4 h5 h6 ho => ⟨decide_eq_true (by dsimp only; omega), decide_eq_true (by dsimp only; omega), ho⟩) 8 5 [] (by omega) (by omega) (by simp)

omit hT hG in
theorem stepB_ge {n a b h l g : Int} {s : BS} (hs : -1 ≤ s.1) : -1 ≤ (stepB n a b h l g s).1 := by
  simp only [stepB]
  split
  · rename_i e
    simp only [Bool.and_eq_true, decide_eq_true_eq] at e
    dsimp only; omega
  · exact hs

theorem loop30 (n a b : Int) (L : List (Int × Int × Int)) (z0 : List AV) (hL : ∀ x, x ∈ L → inV n 4 x.1 = true ∧ inV n x.2.1 x.2.2 = true ∧ okF n 4 x.1 x.2.1 x.2.2 = true) (h640 : L.length ≤ 640) :
    ∀ (m i : Nat) (s : BS), i + m = L.length → -1 ≤ s.1 →
    SEB prog A (heap30 n a b L.length (fun i => L.getD i (0, 0, 0)) z0) (.loop round30) ⟨rho30 12 (.sslice 11 0 L.length) (.rng .i64 s.1 (-1) 215998) (.rng .i64 i 0 640), heap30 n a b L.length (fun i => L.getD i (0, 0, 0)) (bestC n s), [12]⟩ (.exit 0)
      ⟨rho30 12 (.sslice 11 0 L.length) (.rng .i64 (foldB n a b (L.drop i) s).1 (-1) 215998) .bad, heap30 n a b L.length (fun i => L.getD i (0, 0, 0)) (bestC n (foldB n a b (L.drop i) s)), [12]⟩
  | 0, i, s, hi, hs => by
    have hk := r30 n a b s.1 i (if s.1 < 0 then 0 else n) (if s.1 < 0 then 0 else 4) s.2.1 s.2.2.1 s.2.2.2 (decide (0 ≤ s.1)) L.length (fun i => L.getD i (0, 0, 0))
    rw [show decide ((i : Int) < (L.length : Int)) = false from decide_eq_false (by omega), brK_f] at hk
    rw [List.drop_eq_nil_of_le (by omega)]
    refine SEB.loop_exit ?_ (by simp)
    exact (SEB.of_K (D := [12]) hmix hnum (pClr_ok hT hG) (.none _) hk).wk_out (Wk.temps fun ι vs hv => rho30_to rfl rfl rfl self_to self_to bad_to vs hv)
  | m + 1, i, s, hi, hs => by
    have hlt : i < L.length := by omega
    have hd : L.drop i = L.getD i (0, 0, 0) :: L.drop (i + 1) := by
      rw [List.getD_eq_getElem?_getD, List.getElem?_eq_getElem hlt]
      exact List.drop_eq_getElem_cons hlt
    have hm : L.getD i (0, 0, 0) ∈ L := by
      rw [List.getD_eq_getElem?_getD, List.getElem?_eq_getElem hlt]
      exact List.getElem_mem hlt
    obtain ⟨q1, q2, q3⟩ := hL _ hm
    have h1 := round30_next hT hG n a b L.length (fun i => L.getD i (0, 0, 0)) z0 i s hlt (by omega) hs q1 q2 q3
    have h2 := loop30 n a b L z0 hL h640 m (i + 1) _ (by omega) (stepB_ge (n := n) (a := a) (b := b) (h := (L.getD i (0, 0, 0)).1) (l := (L.getD i (0, 0, 0)).2.1) (g := (L.getD i (0, 0, 0)).2.2) hs)
    rw [hd]
    exact SEB.loop_next h1 h2

/-- The reference's best fit. -/
def bestR (n a b : Int) : BS := foldB n a b (list54 n) none4

/-- The loop of the reference's choice, as it stands when the choice begins. -/
noncomputable def g30 (n a b : Int) (ρ : List AV) (B : Heap) : Tr (AEx × List AV × Heap × List Nat) :=
  match (ρ[7]? : Option AV) with
  | some (.slice none 0 0) => .br (propB (canon live30 0 ρ = rho30 11 (.slice none 0 0) (.int .i64 (-1)) (.int .i64 0) ∧ B = heap30e a b ∧ list54 n = []))
      (.leaf (.normal, rho30 11 (.slice none 0 0) (.rng .i64 (bestR n a b).1 (-1) 215998) .bad, heap30e a b, [])) .fail
  | some (.sslice _ _ _) => .br (propB (canon live30 0 ρ = rho30 12 (.sslice 11 0 (list54 n).length) (.int .i64 (-1)) (.int .i64 0) ∧ B = heap30 n a b (list54 n).length (fun i => (list54 n).getD i (0, 0, 0)) zero7))
      (.leaf (.normal, rho30 12 (.sslice 11 0 (list54 n).length) (.rng .i64 (bestR n a b).1 (-1) 215998) .bad, heap30 n a b (list54 n).length (fun i => (list54 n).getD i (0, 0, 0)) (bestC n (bestR n a b)), [12])) .fail
  | _ => .fail

theorem g30_ok (n a b : Int) (hn : 1 ≤ n ∧ n ≤ 100000) (ρ : List AV) (B : Heap) (e : AEx) (ρ' : List AV) (B' : Heap) (D : List Nat) (h : (g30 n a b ρ B).get = some (e, ρ', B', D)) :
    AFr B B' D ∧ SEB prog A B (.block 0 (.loop round30)) ⟨ρ, B, []⟩ e ⟨ρ', B', D⟩ := by
  unfold g30 at h
  split at h
  · obtain ⟨hc, hv⟩ := Tr.br_get h
    obtain ⟨h1, rfl, h3⟩ := propB_eq hc
    simp only [Tr.get, Option.some.injEq, Prod.mk.injEq] at hv
    obtain ⟨rfl, rfl, rfl, rfl⟩ := hv
    refine ⟨.refl _, SEB.wk_in (Wk.temps fun ι vs hv => by have := canon_VRL (live := live30) (i := 0) hv; rwa [h1] at this) (SEB.block_exit (SEB.loop_exit ?_ (by simp)))⟩
    refine (SEB.of_K (D := []) hmix hnum (pClr_ok hT hG) (.none _) (r30e a b)).wk_out (Wk.temps fun ι vs hv => rho30_to rfl rfl rfl self_to (fun v hv => ?_) bad_to vs hv)
    have e : bestR n a b = none4 := by simp only [bestR, h3]; rfl
    rw [e]
    exact int_to (by decide) v hv
  · obtain ⟨hc, hv⟩ := Tr.br_get h
    obtain ⟨h1, rfl⟩ := propB_eq hc
    simp only [Tr.get, Option.some.injEq, Prod.mk.injEq] at hv
    obtain ⟨rfl, rfl, rfl, rfl⟩ := hv
    refine ⟨⟨Nat.le_refl _, fun c _ hc => heap30_low fun e => hc (by simp [e])⟩, SEB.wk_in (Wk.temps fun ι vs hv => by have := canon_VRL (live := live30) (i := 0) hv; rwa [h1] at this) (SEB.block_exit ?_)⟩
    have hl := loop30 hT hG n a b (list54 n) zero7 (list54_mem hn) (list54_len n) (list54 n).length 0 none4 (by simp) (by decide)
    refine SEB.wk_in (Wk.trans (Wk.dirty (D2 := [12]) fun _ h => by cases h) (Wk.trans heap30_first (Wk.temps fun ι vs hv => rho30_to (w' := .rng .i64 none4.1 (-1) 215998) (i' := .rng .i64 (0 : Nat) 0 640) rfl rfl rfl self_to (int_to (by decide)) (int_to (by decide)) vs hv))) ?_
    exact hl
  · cases h

noncomputable def p30 (n a b : Int) : Prims := pClr.addb 30 0 (g30 n a b)
theorem p30_ok (n a b : Int) (hn : 1 ≤ n ∧ n ≤ 100000) : PrimOK prog A (p30 n a b) := PrimOK.addb (pClr_ok hT hG) func30 code30_eq blocks30 (g30_ok hT hG n a b hn)

end
end Go.Proofs.Tryz
