/- Texts of classes: what both sides write. -/
import Derived.Test.YtnkdndjhgoahgaaGreatDoorPrs5
import Derived.Test.YtnkdndjhgoahgaaGreatDoorAwake

namespace Go.Proofs.Tryz
open Go.Ad

def digF (g : Int) : List UInt8 := if g < 10 then [(48 + g).toNat.toUInt8] else [49, (38 + g).toNat.toUInt8]
/-- The text of a class. -/
def fmtF (h : Bool) (l g : Int) : List UInt8 := (bif h then capS else lettS).getD l.toNat 0 :: digF g

def fmtIs (o : Option AV) (s : List UInt8) : Bool := match o with
  | some (.tuple [.str t, .int .i64 e]) => t == s && decide (e = 0)
  | _ => false
theorem fmtIs_eq {o : Option AV} {s : List UInt8} (h : fmtIs o s = true) : o = some (.tuple [.str s, .int .i64 0]) := by
  unfold fmtIs at h
  split at h
  · simp only [Bool.and_eq_true, beq_iff_eq, decide_eq_true_eq] at h
    obtain ⟨rfl, rfl⟩ := h; rfl
  · cases h

theorem fmt12 : ([false, true].all fun h => (List.range 10).all fun l => (List.range 8).all fun g => fmtIs ((runK prog (prs lib) 60).call 12 [.agg [.bool h, .int .i64 (l : Int), .int .i64 ((5 + g : Nat) : Int)]] (Bg 9) finV) (fmtF h l (5 + g : Nat))) = true := by kernel_rfl
theorem fmt13 : ([false, true].all fun h => (List.range 10).all fun l => (List.range 8).all fun g => fmtIs ((runK prog (prs lib) 60).call 13 [.agg [.bool h, .int .i64 (l : Int), .int .i64 ((5 + g : Nat) : Int)]] (Bg 9) finV) (fmtF h l (5 + g : Nat))) = true := by kernel_rfl

def inC (l g : Int) : Bool := decide (0 ≤ l ∧ l ≤ 9) && decide (5 ≤ g ∧ g ≤ 12)
def sFmt : List AV → Tr AV
  | [.agg [a, b, c]] => match sbool? a, snum b, snum c with
    | some h, some (.i64, l), some (.i64, g) => .br (inC l g) (.leaf (.tuple [.sstr (fmtF h l g), .int .i64 0])) .fail
    | _, _, _ => .fail
  | _ => .fail

theorem sFmt_sound {f : FuncId} (ht : ([false, true].all fun h => (List.range 10).all fun l => (List.range 8).all fun g => fmtIs ((runK prog (prs lib) 60).call f [.agg [.bool h, .int .i64 (l : Int), .int .i64 ((5 + g : Nat) : Int)]] (Bg 9) finV) (fmtF h l (5 + g : Nat))) = true)
    (args : List AV) (v : AV) (hg : (sFmt args).get = some v) :
    ∃ args' v' B', (∀ (ι : Emb) (xs : List Value), VRL ι args xs → VRL ι args' xs) ∧ (∀ (ι : Emb) (x : Value), VR ι v' x → VR ι v x) ∧ belowL 0 args' = true ∧ below 0 v' = true ∧
      Ca prog (prs lib) f args' (Bg prog.globals.size) (v', B', []) := by
  unfold sFmt at hg
  split at hg
  · rename_i a b c
    split at hg
    · rename_i h l g h1 h2 h3
      obtain ⟨hc, hv⟩ := Tr.br_get0 hg
      simp only [inC, Bool.and_eq_true, decide_eq_true_eq] at hc
      cases hv
      obtain ⟨k, rfl, hk⟩ : ∃ k : Nat, g = ((5 + k : Nat) : Int) ∧ k < 8 := ⟨(g - 5).toNat, by omega, by omega⟩
      obtain ⟨m, rfl, hm⟩ : ∃ m : Nat, l = (m : Int) ∧ m < 10 := ⟨l.toNat, by omega, by omega⟩
      have hr := fmtIs_eq (List.all_eq_true.1 (List.all_eq_true.1 (List.all_eq_true.1 ht h (by cases h <;> simp)) m (List.mem_range.2 hm)) k (List.mem_range.2 hk))
      obtain ⟨B', hca⟩ := Ca.of_finV hr
      refine ⟨_, _, B', fun ι xs hx => ?_, fun ι x hx => ?_, rfl, rfl, by rw [gsz]; exact hca⟩
      · simp only [VRL, VR] at hx ⊢
        obtain ⟨x, l0, q1, ⟨ys, q2, y1, l1, q3, q4, y2, l2, q5, q6, y3, l3, q7, q8, q9⟩, q10⟩ := hx
        exact ⟨x, l0, q1, ⟨ys, q2, y1, l1, q3, sbool_VR h1 q4, y2, l2, q5, snum_VR h2 q6, y3, l3, q7, snum_VR h3 q8, q9⟩, q10⟩
      · simp only [VR, VRL] at hx ⊢
        exact hx
    · cases hg
  · cases hg

/-- What the law about texts calls. -/
def pRd : Prims := ((prs3 known).addt 12 sFmt).addt 13 sFmt
theorem pRd_ok {A : Amb} (hT : Tab A) (hG : prog.globals.size ≤ A.G) : PrimOK prog A pRd := by
  have h0 := prs_ok (lib_ok hT)
  exact PrimOK.addt2 hmix hnum h0 (PrimOK.addt2 hmix hnum h0 (prs3_ok hT hG (known_ok hT hG)) hG func12 (by kernel_rfl) (sFmt_sound fmt12)) hG func13 (by kernel_rfl) (sFmt_sound fmt13)
end Go.Proofs.Tryz
