/- The deviations as known functions of the evaluator, at numbers that are not known. -/
import Derived.Test.YthpoofohoancnaaTol

namespace Go.Proofs.Try
open Go.Ad

/-- Are these the two numbers? -/
def chkK (d : Int × Int) : KV Unit := fun v _ D => match D with
  | [] => match v with
    | .agg [a, b] => match snum a, snum b with
      | some (.i64, x), some (.i64, y) => brK (decide (x = d.1 ∧ y = d.2)) (some ()) none
      | _, _ => none
    | _ => none
  | _ => none

theorem chkK_some {d : Int × Int} {v : AV} {B : Heap} {D : List Nat} (h : chkK d v B D = some ()) : D = [] ∧ ∃ a b, v = .agg [a, b] ∧ snum a = some (.i64, d.1) ∧ snum b = some (.i64, d.2) := by
  unfold chkK at h
  split at h
  · refine ⟨rfl, ?_⟩
    split at h
    · rename_i a b
      split at h
      · rename_i x y h1 h2
        rcases brK_some h with ⟨h3, _⟩ | ⟨_, h3⟩
        · obtain ⟨rfl, rfl⟩ := of_decide_eq_true h3
          exact ⟨a, b, rfl, h1, h2⟩
        · cases h3
      · cases h
    · cases h
  · cases h

def leafT (i : Nat) (s t : Int) (h : Bool) (d : Int × Int) : Option Unit :=
  if i < 5 then brK h (brK (decide (s = d.1 ∧ 0 - (-s - t) = d.2)) (some ()) none) (brK (decide (-s - t = d.1 ∧ -s = d.2)) (some ()) none)
  else if i = 5 then brK h (brK (decide (0 - t.tdiv 2 = d.1 ∧ 0 - (0 - t.tdiv 2) = d.2)) (some ()) none) (brK (decide (0 - t.tdiv 2 = d.1 ∧ t.tdiv 2 = d.2)) (some ()) none)
  else brK h (brK (decide (0 - (s + t) = d.1 ∧ -s = d.2)) (some ()) none) (brK (decide (s = d.1 ∧ s + t = d.2)) (some ()) none)

def dTree (V h : Bool) (t m : Int) (d : Int × Int) : List Int → Nat → Option Unit
  | [], _ => none
  | s :: r, i => brK (decide (m = (i : Int))) (brK V (leafT i s t h d) none) (dTree V h t m d r (i + 1))

def aTree (h : Bool) (t m : Int) (d : Int × Int) : List Int → Nat → Option Unit
  | [], _ => none
  | s :: r, i => brK (decide (m = (i : Int))) (brK (m == 5) (leafT 5 s t h d) (brK (decide (m < 5)) (leafT 0 s t h d) (leafT 9 s t h d))) (aTree h t m d r (i + 1))

def sl (j : Nat) : List Int := shifts.map fun x => bases.getD j 0 * x / 10

def pT2 : Prims := (pTol.addt 79 sTol).addt 61 sTol

theorem pT2_ok {A : Amb} (hT : Tab A) (hG : prog.globals.size ≤ A.G) : PrimOK prog A pT2 := by
  have h0 := pTol_ok (A := A) hT hG
  have h3 := PrimOK.addt hmix hnum h0 hG func79 (by kernel_rfl) (sTol_sound rfl)
  exact PrimOK.addt hmix hnum h3 hG func61 (by kernel_rfl) (sTol_sound rfl)

theorem devTree0 (n m g : Int) (h : Bool) (d : Int × Int) : (runK prog pT2 60).call 57 [.rng .i64 n 1 3000, .agg [.sbool h, .rng .i64 m 0 9, .rng .i64 g 5 12]] (Bg 0) (chkK d) = dTree (decide ((1 ≤ n ∧ n ≤ 100000) ∧ 5 ≤ g ∧ g ≤ 12)) h (tolT (ixOf n) g) m d (sl 0) 0 := by kernel_rfl
theorem devTree1 (n m g : Int) (h : Bool) (d : Int × Int) : (runK prog pT2 60).call 57 [.rng .i64 n 3001 6000, .agg [.sbool h, .rng .i64 m 0 9, .rng .i64 g 5 12]] (Bg 0) (chkK d) = dTree (decide ((1 ≤ n ∧ n ≤ 100000) ∧ 5 ≤ g ∧ g ≤ 12)) h (tolT (ixOf n) g) m d (sl 1) 0 := by kernel_rfl
theorem devTree2 (n m g : Int) (h : Bool) (d : Int × Int) : (runK prog pT2 60).call 57 [.rng .i64 n 6001 10000, .agg [.sbool h, .rng .i64 m 0 9, .rng .i64 g 5 12]] (Bg 0) (chkK d) = dTree (decide ((1 ≤ n ∧ n ≤ 100000) ∧ 5 ≤ g ∧ g ≤ 12)) h (tolT (ixOf n) g) m d (sl 2) 0 := by kernel_rfl
theorem devTree3 (n m g : Int) (h : Bool) (d : Int × Int) : (runK prog pT2 60).call 57 [.rng .i64 n 10001 18000, .agg [.sbool h, .rng .i64 m 0 9, .rng .i64 g 5 12]] (Bg 0) (chkK d) = dTree (decide ((1 ≤ n ∧ n ≤ 100000) ∧ 5 ≤ g ∧ g ≤ 12)) h (tolT (ixOf n) g) m d (sl 3) 0 := by kernel_rfl
theorem devTree4 (n m g : Int) (h : Bool) (d : Int × Int) : (runK prog pT2 60).call 57 [.rng .i64 n 18001 30000, .agg [.sbool h, .rng .i64 m 0 9, .rng .i64 g 5 12]] (Bg 0) (chkK d) = dTree (decide ((1 ≤ n ∧ n ≤ 100000) ∧ 5 ≤ g ∧ g ≤ 12)) h (tolT (ixOf n) g) m d (sl 4) 0 := by kernel_rfl
theorem devTree5 (n m g : Int) (h : Bool) (d : Int × Int) : (runK prog pT2 60).call 57 [.rng .i64 n 30001 50000, .agg [.sbool h, .rng .i64 m 0 9, .rng .i64 g 5 12]] (Bg 0) (chkK d) = dTree (decide ((1 ≤ n ∧ n ≤ 100000) ∧ 5 ≤ g ∧ g ≤ 12)) h (tolT (ixOf n) g) m d (sl 5) 0 := by kernel_rfl
theorem devTree6 (n m g : Int) (h : Bool) (d : Int × Int) : (runK prog pT2 60).call 57 [.rng .i64 n 50001 80000, .agg [.sbool h, .rng .i64 m 0 9, .rng .i64 g 5 12]] (Bg 0) (chkK d) = dTree (decide ((1 ≤ n ∧ n ≤ 100000) ∧ 5 ≤ g ∧ g ≤ 12)) h (tolT (ixOf n) g) m d (sl 6) 0 := by kernel_rfl
theorem devTree7 (n m g : Int) (h : Bool) (d : Int × Int) : (runK prog pT2 60).call 57 [.rng .i64 n 80001 100000, .agg [.sbool h, .rng .i64 m 0 9, .rng .i64 g 5 12]] (Bg 0) (chkK d) = dTree (decide ((1 ≤ n ∧ n ≤ 100000) ∧ 5 ≤ g ∧ g ≤ 12)) h (tolT (ixOf n) g) m d (sl 7) 0 := by kernel_rfl
theorem awayTree0 (n m g : Int) (h : Bool) (d : Int × Int) : (runK prog pT2 60).call 34 [.rng .i64 n 1 3000, .agg [.sbool h, .rng .i64 m 0 9, .rng .i64 g 5 12]] (Bg 0) (chkK d) = brK (decide ((1 ≤ n ∧ n ≤ 100000) ∧ 5 ≤ g ∧ g ≤ 12)) (aTree h (tolT (ixOf n) g) m d (sl 0) 0) none := by kernel_rfl
theorem awayTree1 (n m g : Int) (h : Bool) (d : Int × Int) : (runK prog pT2 60).call 34 [.rng .i64 n 3001 6000, .agg [.sbool h, .rng .i64 m 0 9, .rng .i64 g 5 12]] (Bg 0) (chkK d) = brK (decide ((1 ≤ n ∧ n ≤ 100000) ∧ 5 ≤ g ∧ g ≤ 12)) (aTree h (tolT (ixOf n) g) m d (sl 1) 0) none := by kernel_rfl
theorem awayTree2 (n m g : Int) (h : Bool) (d : Int × Int) : (runK prog pT2 60).call 34 [.rng .i64 n 6001 10000, .agg [.sbool h, .rng .i64 m 0 9, .rng .i64 g 5 12]] (Bg 0) (chkK d) = brK (decide ((1 ≤ n ∧ n ≤ 100000) ∧ 5 ≤ g ∧ g ≤ 12)) (aTree h (tolT (ixOf n) g) m d (sl 2) 0) none := by kernel_rfl
theorem awayTree3 (n m g : Int) (h : Bool) (d : Int × Int) : (runK prog pT2 60).call 34 [.rng .i64 n 10001 18000, .agg [.sbool h, .rng .i64 m 0 9, .rng .i64 g 5 12]] (Bg 0) (chkK d) = brK (decide ((1 ≤ n ∧ n ≤ 100000) ∧ 5 ≤ g ∧ g ≤ 12)) (aTree h (tolT (ixOf n) g) m d (sl 3) 0) none := by kernel_rfl
theorem awayTree4 (n m g : Int) (h : Bool) (d : Int × Int) : (runK prog pT2 60).call 34 [.rng .i64 n 18001 30000, .agg [.sbool h, .rng .i64 m 0 9, .rng .i64 g 5 12]] (Bg 0) (chkK d) = brK (decide ((1 ≤ n ∧ n ≤ 100000) ∧ 5 ≤ g ∧ g ≤ 12)) (aTree h (tolT (ixOf n) g) m d (sl 4) 0) none := by kernel_rfl
theorem awayTree5 (n m g : Int) (h : Bool) (d : Int × Int) : (runK prog pT2 60).call 34 [.rng .i64 n 30001 50000, .agg [.sbool h, .rng .i64 m 0 9, .rng .i64 g 5 12]] (Bg 0) (chkK d) = brK (decide ((1 ≤ n ∧ n ≤ 100000) ∧ 5 ≤ g ∧ g ≤ 12)) (aTree h (tolT (ixOf n) g) m d (sl 5) 0) none := by kernel_rfl
theorem awayTree6 (n m g : Int) (h : Bool) (d : Int × Int) : (runK prog pT2 60).call 34 [.rng .i64 n 50001 80000, .agg [.sbool h, .rng .i64 m 0 9, .rng .i64 g 5 12]] (Bg 0) (chkK d) = brK (decide ((1 ≤ n ∧ n ≤ 100000) ∧ 5 ≤ g ∧ g ≤ 12)) (aTree h (tolT (ixOf n) g) m d (sl 6) 0) none := by kernel_rfl
theorem awayTree7 (n m g : Int) (h : Bool) (d : Int × Int) : (runK prog pT2 60).call 34 [.rng .i64 n 80001 100000, .agg [.sbool h, .rng .i64 m 0 9, .rng .i64 g 5 12]] (Bg 0) (chkK d) = brK (decide ((1 ≤ n ∧ n ≤ 100000) ∧ 5 ≤ g ∧ g ≤ 12)) (aTree h (tolT (ixOf n) g) m d (sl 7) 0) none := by kernel_rfl

theorem devTree (n m g : Int) (h : Bool) (d : Int × Int) (j : Nat) (p : Int × Int) (hp : steps8[j]? = some p) :
    (runK prog pT2 60).call 57 [.rng .i64 n p.1 p.2, .agg [.sbool h, .rng .i64 m 0 9, .rng .i64 g 5 12]] (Bg 0) (chkK d) = dTree (decide ((1 ≤ n ∧ n ≤ 100000) ∧ 5 ≤ g ∧ g ≤ 12)) h (tolT (ixOf n) g) m d (sl j) 0 := by
  match j with
  | 0 => cases hp; exact devTree0 n m g h d
  | 1 => cases hp; exact devTree1 n m g h d
  | 2 => cases hp; exact devTree2 n m g h d
  | 3 => cases hp; exact devTree3 n m g h d
  | 4 => cases hp; exact devTree4 n m g h d
  | 5 => cases hp; exact devTree5 n m g h d
  | 6 => cases hp; exact devTree6 n m g h d
  | 7 => cases hp; exact devTree7 n m g h d
  | j + 8 => simp [steps8] at hp

theorem awayTree (n m g : Int) (h : Bool) (d : Int × Int) (j : Nat) (p : Int × Int) (hp : steps8[j]? = some p) :
    (runK prog pT2 60).call 34 [.rng .i64 n p.1 p.2, .agg [.sbool h, .rng .i64 m 0 9, .rng .i64 g 5 12]] (Bg 0) (chkK d) = brK (decide ((1 ≤ n ∧ n ≤ 100000) ∧ 5 ≤ g ∧ g ≤ 12)) (aTree h (tolT (ixOf n) g) m d (sl j) 0) none := by
  match j with
  | 0 => cases hp; exact awayTree0 n m g h d
  | 1 => cases hp; exact awayTree1 n m g h d
  | 2 => cases hp; exact awayTree2 n m g h d
  | 3 => cases hp; exact awayTree3 n m g h d
  | 4 => cases hp; exact awayTree4 n m g h d
  | 5 => cases hp; exact awayTree5 n m g h d
  | 6 => cases hp; exact awayTree6 n m g h d
  | 7 => cases hp; exact awayTree7 n m g h d
  | j + 8 => simp [steps8] at hp

theorem leaf_dev (j m : Nat) (i : Nat) (h : Bool) (g : Int) (hm : m < 10) (ht : 0 ≤ tolT j g) (hi : (m < 5 ∧ i < 5) ∨ (m = 5 ∧ i = 5) ∨ (5 < m ∧ 5 < i)) :
    leafT i (bases.getD j 0 * shifts.getD m 0 / 10) (tolT j g) h (devT j h m g) = some () := by
  have h2 : (tolT j g).tdiv 2 = tolT j g / 2 := Int.tdiv_eq_ediv_of_nonneg ht
  have fin : ∀ (b : Bool), b = true → brK b (some ()) (none : Option Unit) = some () := fun b hb => by rw [hb]; rfl
  rcases hi with ⟨h3, h4⟩ | ⟨h3, h4⟩ | ⟨h3, h4⟩
  · have hs : shaftT j (m : Int) g = (-(bases.getD j 0 * shifts.getD m 0 / 10) - tolT j g, -(bases.getD j 0 * shifts.getD m 0 / 10)) := by
      simp only [shaftT, Int.toNat_natCast]
      rw [if_neg (by omega : ¬ (m : Int) = 5), if_pos (by omega : (m : Int) < 5)]
    unfold devT leafT
    rw [hs, if_pos h4]
    generalize bases.getD j 0 * shifts.getD m 0 / 10 = s
    generalize tolT j g = t
    cases h
    · exact fin _ (decide_eq_true ⟨rfl, rfl⟩)
    · exact fin _ (decide_eq_true ⟨by show s = - -s; omega, by show 0 - (-s - t) = -(-s - t); omega⟩)
  · have hs : shaftT j (m : Int) g = (-(tolT j g / 2), tolT j g / 2) := by
      simp only [shaftT, Int.toNat_natCast]
      rw [if_pos (by omega : (m : Int) = 5)]
    unfold devT leafT
    rw [hs, if_neg (by omega : ¬ i < 5), if_pos h4, h2]
    generalize bases.getD j 0 * shifts.getD m 0 / 10 = s
    generalize tolT j g / 2 = u
    cases h
    · exact fin _ (decide_eq_true ⟨by show 0 - u = -u; omega, rfl⟩)
    · exact fin _ (decide_eq_true ⟨by show 0 - u = -u; omega, by show 0 - (0 - u) = - -u; omega⟩)
  · have hs : shaftT j (m : Int) g = (bases.getD j 0 * shifts.getD m 0 / 10, bases.getD j 0 * shifts.getD m 0 / 10 + tolT j g) := by
      simp only [shaftT, Int.toNat_natCast]
      rw [if_neg (by omega : ¬ (m : Int) = 5), if_neg (by omega : ¬ (m : Int) < 5)]
    unfold devT leafT
    rw [hs, if_neg (by omega : ¬ i < 5), if_neg (by omega : ¬ i = 5)]
    generalize bases.getD j 0 * shifts.getD m 0 / 10 = s
    generalize tolT j g = t
    cases h
    · exact fin _ (decide_eq_true ⟨rfl, rfl⟩)
    · exact fin _ (decide_eq_true ⟨by show 0 - (s + t) = -(s + t); omega, rfl⟩)

theorem dTree_some (j m : Nat) (h : Bool) (g : Int) (hm : m < 10) (ht : 0 ≤ tolT j g) : dTree true h (tolT j g) m (devT j h m g) (sl j) 0 = some () := by
  have key : ∀ i, (m < 5 ∧ i < 5) ∨ (m = 5 ∧ i = 5) ∨ (5 < m ∧ 5 < i) → leafT i (bases.getD j 0 * shifts.getD m 0 / 10) (tolT j g) h (devT j h m g) = some () := fun i hi => leaf_dev j m i h g hm ht hi
  have hall : ∀ (i k : Nat) (l : List Int), i + k = m → l[k]? = some (bases.getD j 0 * shifts.getD m 0 / 10) → dTree true h (tolT j g) m (devT j h m g) l i = some () := by
    intro i k
    induction k generalizing i with
    | zero =>
      intro l hi hl
      cases l with
      | nil => simp at hl
      | cons s r =>
        simp only [List.getElem?_cons_zero, Option.some.injEq] at hl
        subst hl
        simp only [dTree]
        rw [decide_eq_true (by omega : (m : Int) = (i : Int))]
        simp only [brK]
        exact key i (by omega)
    | succ k ih =>
      intro l hi hl
      cases l with
      | nil => simp at hl
      | cons s r =>
        rw [List.getElem?_cons_succ] at hl
        simp only [dTree]
        rw [decide_eq_false (by omega : ¬ (m : Int) = (i : Int))]
        simp only [brK]
        exact ih (i + 1) r (by omega) hl
  refine hall 0 m (sl j) (by omega) ?_
  have : m < shifts.length := by simp [shifts]; omega
  simp [sl, List.getD, this]

theorem aTree_some (j m : Nat) (h : Bool) (g : Int) (hm : m < 10) (ht : 0 ≤ tolT j g) : aTree h (tolT j g) m (devT j h m g) (sl j) 0 = some () := by
  have key : ∀ i, (m < 5 ∧ i < 5) ∨ (m = 5 ∧ i = 5) ∨ (5 < m ∧ 5 < i) → leafT i (bases.getD j 0 * shifts.getD m 0 / 10) (tolT j g) h (devT j h m g) = some () := fun i hi => leaf_dev j m i h g hm ht hi
  have hall : ∀ (i k : Nat) (l : List Int), i + k = m → l[k]? = some (bases.getD j 0 * shifts.getD m 0 / 10) → aTree h (tolT j g) m (devT j h m g) l i = some () := by
    intro i k
    induction k generalizing i with
    | zero =>
      intro l hi hl
      cases l with
      | nil => simp at hl
      | cons s r =>
        simp only [List.getElem?_cons_zero, Option.some.injEq] at hl
        subst hl
        simp only [aTree]
        rw [decide_eq_true (by omega : (m : Int) = (i : Int))]
        by_cases h5 : m = 5
        · have e1 : ((m : Int) == 5) = true := by simp [h5]
          rw [e1]; exact key 5 (by omega)
        · have e1 : ((m : Int) == 5) = false := by simp; omega
          rw [e1]
          by_cases h6 : m < 5
          · rw [decide_eq_true (by omega : (m : Int) < 5)]; exact key 0 (by omega)
          · rw [decide_eq_false (by omega : ¬ (m : Int) < 5)]; exact key 9 (by omega)
    | succ k ih =>
      intro l hi hl
      cases l with
      | nil => simp at hl
      | cons s r =>
        rw [List.getElem?_cons_succ] at hl
        simp only [aTree]
        rw [decide_eq_false (by omega : ¬ (m : Int) = (i : Int))]
        simp only [brK]
        exact ih (i + 1) r (by omega) hl
  refine hall 0 m (sl j) (by omega) ?_
  have : m < shifts.length := by simp [shifts]; omega
  simp [sl, List.getD, this]

theorem dev_bounds (j m k : Nat) (h : Bool) (hj : j < 8) (hm : m < 10) (hk : k < 8) : (-4000 ≤ (devT j h m (5 + k : Nat)).1 ∧ (devT j h m (5 + k : Nat)).1 ≤ 4000) ∧ (-4000 ≤ (devT j h m (5 + k : Nat)).2 ∧ (devT j h m (5 + k : Nat)).2 ≤ 4000) := by
  have hh : ((List.range 8).all fun j => (List.range 10).all fun m => (List.range 8).all fun k => [false, true].all fun h => decide ((-4000 ≤ (devT j h m (5 + k : Nat)).1 ∧ (devT j h m (5 + k : Nat)).1 ≤ 4000) ∧ (-4000 ≤ (devT j h m (5 + k : Nat)).2 ∧ (devT j h m (5 + k : Nat)).2 ≤ 4000))) = true := by kernel_rfl
  exact of_decide_eq_true (List.all_eq_true.1 (List.all_eq_true.1 (List.all_eq_true.1 (List.all_eq_true.1 hh j (List.mem_range.2 hj)) m (List.mem_range.2 hm)) k (List.mem_range.2 hk)) h (by cases h <;> simp))

def sDev : List AV → Tr AV
  | [a, .agg [b, c, d]] => match snum a, sbool? b, snum c, snum d with
    | some (.i64, s), some h, some (.i64, l), some (.i64, g) => .br (decide ((1 ≤ s ∧ s ≤ 100000) ∧ (0 ≤ l ∧ l ≤ 9) ∧ 5 ≤ g ∧ g ≤ 12))
      (.leaf (.agg [.rng .i64 (devT (ixOf s) h l g).1 (-4000) 4000, .rng .i64 (devT (ixOf s) h l g).2 (-4000) 4000])) .fail
    | _, _, _, _ => .fail
  | _ => .fail

theorem snum_below {a : AV} {k : IntKind} {n : Int} (h : snum a = some (k, n)) (m : Nat) : below m a = true := by
  cases a <;> simp [snum] at h <;> rfl

theorem sDev_sound {f : FuncId} {prims : Prims} (h : ∀ (n : Int) (m : Nat) (g : Int) (s : Bool) (j : Nat) (p : Int × Int), steps8[j]? = some p → j = ixOf n → (1 ≤ n ∧ n ≤ 100000) → m < 10 → (5 ≤ g ∧ g ≤ 12) →
      (runK prog prims 60).call f [.rng .i64 n p.1 p.2, .agg [.sbool s, .rng .i64 m 0 9, .rng .i64 g 5 12]] (Bg 0) (chkK (devT j s m g)) = some ()) (args : List AV) (v : AV) (hg : (sDev args).get = some v) :
    ∃ args' v' B', (∀ (ι : Emb) (xs : List Value), VRL ι args xs → VRL ι args' xs) ∧ (∀ (ι : Emb) (x : Value), VR ι v' x → VR ι v x) ∧ belowL 0 args' = true ∧ below 0 v' = true ∧
      Ca prog prims f args' (Bg prog.globals.size) (v', B', []) := by
  unfold sDev at hg
  split at hg
  · rename_i a b c d
    split at hg
    · rename_i s hb l g h1 h2 h3 h4
      obtain ⟨hc, hv⟩ := Tr.br_get hg
      cases hv
      obtain ⟨⟨hs1, hs2⟩, ⟨hl1, hl2⟩, hg1, hg2⟩ := of_decide_eq_true hc
      obtain ⟨p, q1, q2, q3, q4⟩ := ix_spec s hs1 hs2
      have hlt := ix_lt s
      obtain ⟨m, rfl, hm⟩ : ∃ m : Nat, l = (m : Int) ∧ m < 10 := ⟨l.toNat, by omega, by omega⟩
      have hrun := h s m g hb (ixOf s) p q1 rfl ⟨hs1, hs2⟩ hm ⟨hg1, hg2⟩
      obtain ⟨v', B', D, hca, hk⟩ := (runK_ref 60).call _ _ _ _ _ hrun
      obtain ⟨rfl, x, y, rfl, hx, hy⟩ := chkK_some hk
      obtain ⟨k, rfl, hk'⟩ : ∃ k : Nat, g = ((5 + k : Nat) : Int) ∧ k < 8 := ⟨(g - 5).toNat, by omega, by omega⟩
      have hbd := dev_bounds (ixOf s) m k hb hlt hm hk'
      refine ⟨_, _, B', fun ι xs hx => ?_, fun ι z hz => ?_, ?_, ?_, by rw [gsz]; exact hca⟩
      · simp only [VRL, VR] at hx ⊢
        obtain ⟨x, l, h6, h7, x2, l2, h8, ⟨ys, h9, y0, l3, h10, h11, y1, l4, h12, h13, y2, l5, h14, h15, h16⟩, h17⟩ := hx
        exact ⟨x, l, h6, ⟨snum_VR h1 h7, q2, q3⟩, x2, l2, h8, ⟨ys, h9, y0, l3, h10, sbool_VR h2 h11, y1, l4, h12, ⟨snum_VR h3 h13, by omega, by omega⟩, y2, l5, h14, ⟨snum_VR h4 h15, by omega, by omega⟩, h16⟩, h17⟩
      · simp only [VR, VRL] at hz ⊢
        obtain ⟨ys, h9, y0, l3, h10, h11, y1, l4, h12, h13, h14⟩ := hz
        exact ⟨ys, h9, y0, l3, h10, ⟨snum_VR hx h11, hbd.1⟩, y1, l4, h12, ⟨snum_VR hy h13, hbd.2⟩, h14⟩
      · rfl
      · simp only [below, belowL, snum_below hx, snum_below hy, Bool.and_self]
    · cases hg
  · cases hg

theorem tol_pos (n g : Int) (h : 5 ≤ g ∧ g ≤ 12) : 0 ≤ tolT (ixOf n) g := by
  obtain ⟨k, rfl, hk'⟩ : ∃ k : Nat, g = ((5 + k : Nat) : Int) ∧ k < 8 := ⟨(g - 5).toNat, by omega, by omega⟩
  have := tol_bounds (ixOf n) k (ix_lt n) hk'
  omega

/-- All of them. -/
def pSym : Prims := (pSymT.addt 57 sDev).addt 34 sDev

theorem pD1_ok {A : Amb} (hT : Tab A) (hG : prog.globals.size ≤ A.G) : PrimOK prog A (pT2.addt 57 sDev) :=
  PrimOK.addt hmix hnum (pT2_ok hT hG) hG func57 (by kernel_rfl) (sDev_sound fun n m g s j p hp hj hn hm hg => by
    rw [devTree n m g s _ j p hp, decide_eq_true ⟨hn, hg⟩, hj]; exact dTree_some _ m s g hm (tol_pos n g hg))
theorem PrimOK.over {P : Program} {A : Amb} {prims prims' : Prims} {f : FuncId} {g : List AV → Tr AV} (h : PrimOK P A (prims.addt f g)) (h' : PrimOK P A prims') : PrimOK P A (prims'.addt f g) := by
  refine ⟨h'.ext, fun x g' hx => ?_, h'.blkfr, h'.blk⟩
  unfold Prims.addt Prims.addh at hx
  simp only at hx
  split at hx
  · rename_i e; subst e; cases hx
    exact h.fn x _ (by simp [Prims.addt, Prims.addh])
  · exact h'.fn x g' hx

theorem pD2_ok {A : Amb} (hT : Tab A) (hG : prog.globals.size ≤ A.G) : PrimOK prog A (pT2.addt 34 sDev) :=
  PrimOK.addt hmix hnum (pT2_ok hT hG) hG func34 (by kernel_rfl) (sDev_sound fun n m g s j p hp hj hn hm hg => by
    rw [awayTree n m g s _ j p hp, decide_eq_true ⟨hn, hg⟩, hj]; exact aTree_some _ m s g hm (tol_pos n g hg))

theorem pSym_ok {A : Amb} (hT : Tab A) (hG : prog.globals.size ≤ A.G) : PrimOK prog A pSym :=
  PrimOK.over (pD2_ok hT hG) (PrimOK.over (pD1_ok hT hG) (pSymT_ok hT hG))
#print axioms pSym_ok
end Go.Proofs.Try
