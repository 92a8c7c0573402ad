/- The limits of a class as known functions of the evaluator, at numbers that are not known. -/
import Derived.Test.YthpoofohoancnaaDev

namespace Go.Proofs.Try
open Go.Ad

/-- Are the limits within range? -/
def okL (n : Int) (h : Bool) (m g : Int) : Bool := decide (1 ≤ n + (devT (ixOf n) h m g).1 ∧ n + (devT (ixOf n) h m g).2 ≤ 100000)

def inV (n m g : Int) : Bool := decide ((1 ≤ n ∧ n ≤ 100000) ∧ (0 ≤ m ∧ m ≤ 9) ∧ 5 ≤ g ∧ g ≤ 12)

def limV (n : Int) (h : Bool) (m g : Int) : AV := .tuple [.agg [.rng .i64 (n + (devT (ixOf n) h m g).1) 1 100000, .rng .i64 (n + (devT (ixOf n) h m g).2) 1 100000], .int .i64 0]
def limE : AV := .tuple [.agg [.int .i64 0, .int .i64 0], .int .i64 2]

def sLim : List AV → Tr AV
  | [a, .agg [b, c, d]] => match snum a, sbool? b, snum c, snum d with
    | some (.i64, n), some h, some (.i64, m), some (.i64, g) => .br (inV n m g) (.br (okL n h m g) (.leaf (limV n h m g)) (.leaf limE)) .fail
    | _, _, _, _ => .fail
  | _ => .fail

def limTree (n m g : Int) (h : Bool) : Option AV :=
  brK (inV n m g) (brK (decide (n + (devT (ixOf n) h m g).1 < 1)) (some limE) (brK (decide (n + (devT (ixOf n) h m g).2 > 100000)) (some limE)
    (some (.tuple [.agg [.rng .i64 (n + (devT (ixOf n) h m g).1) (-3999) 104000, .rng .i64 (n + (devT (ixOf n) h m g).2) (-3999) 104000], .int .i64 0])))) none

theorem limRun (n m g : Int) (h : Bool) : (runK prog pSym 60).call 29 [.rng .i64 n 1 100000, .agg [.sbool h, .rng .i64 m 0 9, .rng .i64 g 5 12]] (Bg 0) finV = limTree n m g h := by kernel_rfl
theorem limRun' (n m g : Int) (h : Bool) : (runK prog pSym 60).call 13 [.rng .i64 n 1 100000, .agg [.sbool h, .rng .i64 m 0 9, .rng .i64 g 5 12]] (Bg 0) finV = limTree n m g h := by kernel_rfl

theorem dev_ord (j m k : Nat) (h : Bool) (hj : j < 8) (hm : m < 10) (hk : k < 8) : (devT j h m (5 + k : Nat)).1 ≤ (devT j h m (5 + k : Nat)).2 := by
  have hh : ((List.range 8).all fun j => (List.range 10).all fun m => (List.range 8).all fun k => [false, true].all fun h => decide ((devT j h m (5 + k : Nat)).1 ≤ (devT j h m (5 + k : Nat)).2)) = true := by kernel_rfl
  exact of_decide_eq_true (List.all_eq_true.1 (List.all_eq_true.1 (List.all_eq_true.1 (List.all_eq_true.1 hh j (List.mem_range.2 hj)) m (List.mem_range.2 hm)) k (List.mem_range.2 hk)) h (by cases h <;> simp))

theorem sLim_sound {f : FuncId} {prims : Prims} (hrun : ∀ (n m g : Int) (h : Bool), (runK prog prims 60).call f [.rng .i64 n 1 100000, .agg [.sbool h, .rng .i64 m 0 9, .rng .i64 g 5 12]] (Bg 0) finV = limTree n m g h)
    (args : List AV) (v : AV) (hg : (sLim args).get = some v) :
    ∃ args' v' B', (∀ (ι : Emb) (xs : List Value), VRL ι args xs → VRL ι args' xs) ∧ (∀ (ι : Emb) (x : Value), VR ι v' x → VR ι v x) ∧ belowL 0 args' = true ∧ below 0 v' = true ∧
      Ca prog prims f args' (Bg prog.globals.size) (v', B', []) := by
  unfold sLim at hg
  split at hg
  · rename_i a b c d
    split at hg
    · rename_i n h m g h1 h2 h3 h4
      obtain ⟨hc, hv⟩ := Tr.br_get hg
      have hr := hrun n m g h
      unfold limTree at hr
      rw [hc] at hr
      obtain ⟨⟨hs1, hs2⟩, ⟨hl1, hl2⟩, hg1, hg2⟩ := of_decide_eq_true hc
      have hargs : ∀ (ι : Emb) (xs : List Value), VRL ι [a, .agg [b, c, d]] xs → VRL ι [.rng .i64 n 1 100000, .agg [.sbool h, .rng .i64 m 0 9, .rng .i64 g 5 12]] xs := fun ι xs hx => by
        simp only [VRL, VR] at hx ⊢
        obtain ⟨x, l, h6, h7, x2, l2, h8, ⟨ys, h9, y0, l3, h10, h11, y1, l4, h12, h13, y2, l5, h14, h15, h16⟩, h17⟩ := hx
        exact ⟨x, l, h6, ⟨snum_VR h1 h7, hs1, hs2⟩, x2, l2, h8, ⟨ys, h9, y0, l3, h10, sbool_VR h2 h11, y1, l4, h12, ⟨snum_VR h3 h13, hl1, hl2⟩, y2, l5, h14, ⟨snum_VR h4 h15, hg1, hg2⟩, h16⟩, h17⟩
      by_cases c1 : n + (devT (ixOf n) h m g).1 < 1
      · have ho : okL n h m g = false := decide_eq_false (by omega)
        rw [decide_eq_true c1] at hr
        obtain ⟨B', hca⟩ := Ca.of_finV hr
        rw [ho] at hv; cases hv
        exact ⟨_, _, B', hargs, fun _ _ h => h, rfl, rfl, by rw [gsz]; exact hca⟩
      · rw [decide_eq_false c1] at hr
        by_cases c2 : n + (devT (ixOf n) h m g).2 > 100000
        · have ho : okL n h m g = false := decide_eq_false (by omega)
          rw [decide_eq_true c2] at hr
          obtain ⟨B', hca⟩ := Ca.of_finV hr
          rw [ho] at hv; cases hv
          exact ⟨_, _, B', hargs, fun _ _ h => h, rfl, rfl, by rw [gsz]; exact hca⟩
        · have ho : okL n h m g = true := decide_eq_true (by omega)
          rw [decide_eq_false c2] at hr
          obtain ⟨B', hca⟩ := Ca.of_finV hr
          rw [ho] at hv; cases hv
          have hord : (devT (ixOf n) h m g).1 ≤ (devT (ixOf n) h m g).2 := by
            obtain ⟨k, rfl, hk'⟩ : ∃ k : Nat, g = ((5 + k : Nat) : Int) ∧ k < 8 := ⟨(g - 5).toNat, by omega, by omega⟩
            obtain ⟨m', rfl, hm'⟩ : ∃ m' : Nat, m = (m' : Int) ∧ m' < 10 := ⟨m.toNat, by omega, by omega⟩
            exact dev_ord _ m' k h (ix_lt n) hm' hk'
          refine ⟨_, _, B', hargs, fun ι x hx => ?_, rfl, rfl, by rw [gsz]; exact hca⟩
          unfold limV
          simp only [VR, VRL] at hx ⊢
          obtain ⟨zs, h9, y0, l3, h10, ⟨ys, h11, y1, l4, h12, h13, y2, l5, h14, h15, h16⟩, h17⟩ := hx
          exact ⟨zs, h9, y0, l3, h10, ⟨ys, h11, y1, l4, h12, ⟨h13.1, by omega, by omega⟩, y2, l5, h14, ⟨h15.1, by omega, by omega⟩, h16⟩, h17⟩
    · cases hg
  · cases hg

def pLim : Prims := (pSym.addt 29 sLim).addt 13 sLim

theorem pLim_ok {A : Amb} (hT : Tab A) (hG : prog.globals.size ≤ A.G) : PrimOK prog A pLim :=
  PrimOK.over (PrimOK.addt hmix hnum (pSym_ok hT hG) hG func13 (by kernel_rfl) (sLim_sound limRun')) (PrimOK.addt hmix hnum (pSym_ok hT hG) hG func29 (by kernel_rfl) (sLim_sound limRun))
#print axioms pLim_ok
end Go.Proofs.Try
