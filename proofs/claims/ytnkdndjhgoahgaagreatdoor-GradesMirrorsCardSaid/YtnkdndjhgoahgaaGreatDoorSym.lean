/- The grades' inner functions as known functions of the evaluator by cases, at numbers that are not known. -/
import Derived.Test.YtnkdndjhgoahgaaGreatDoorCTab
namespace Go.Proofs.Tryz
open Go.Ac

/-- The size step. -/
def ixOf (s : Int) : Nat :=
  if s ≤ 3000 then 0 else if s ≤ 6000 then 1 else if s ≤ 10000 then 2 else if s ≤ 18000 then 3 else if s ≤ 30000 then 4 else if s ≤ 50000 then 5 else if s ≤ 80000 then 6 else 7

theorem ix_spec (s : Int) (h1 : 1 ≤ s) (h2 : s ≤ 100000) : ∃ p, steps8[ixOf s]? = some p ∧ p.1 ≤ s ∧ s ≤ p.2 ∧ ∀ n, findIv (.rng .i64 n p.1 p.2) steps8 0 = some (ixOf s, p) := by
  unfold ixOf
  split
  · exact ⟨(1, 3000), rfl, h1, by omega, fun n => by kernel_rfl⟩
  split
  · exact ⟨(3001, 6000), rfl, by simp only; omega, by omega, fun n => by kernel_rfl⟩
  split
  · exact ⟨(6001, 10000), rfl, by simp only; omega, by omega, fun n => by kernel_rfl⟩
  split
  · exact ⟨(10001, 18000), rfl, by simp only; omega, by omega, fun n => by kernel_rfl⟩
  split
  · exact ⟨(18001, 30000), rfl, by simp only; omega, by omega, fun n => by kernel_rfl⟩
  split
  · exact ⟨(30001, 50000), rfl, by simp only; omega, by omega, fun n => by kernel_rfl⟩
  split
  · exact ⟨(50001, 80000), rfl, by simp only; omega, by omega, fun n => by kernel_rfl⟩
  · exact ⟨(80001, 100000), rfl, by simp only; omega, by omega, fun n => by kernel_rfl⟩

theorem ix_lt (s : Int) : ixOf s < 8 := by unfold ixOf; (repeat' split) <;> omega

theorem tol_bounds (j : Nat) (k : Nat) (hj : j < 8) (hk : k < 8) : 1 ≤ tolT j (5 + k : Nat) ∧ tolT j (5 + k : Nat) ≤ 4000 := by
  have h : ((List.range 8).all fun j => (List.range 8).all fun k => decide (1 ≤ tolT j (5 + k : Nat) ∧ tolT j (5 + k : Nat) ≤ 4000)) = true := by kernel_rfl
  exact of_decide_eq_true (List.all_eq_true.1 (List.all_eq_true.1 h j (List.mem_range.2 hj)) k (List.mem_range.2 hk))

theorem dev_bounds (j m k : Nat) (h : Bool) (hj : j < 8) (hm : m < 10) (hk : k < 8) : (-4000 ≤ (devT j h m (5 + k : Nat)).1 ∧ (devT j h m (5 + k : Nat)).1 ≤ 4000) ∧ (-4000 ≤ (devT j h m (5 + k : Nat)).2 ∧ (devT j h m (5 + k : Nat)).2 ≤ 4000) := by
  have hh : ((List.range 8).all fun j => (List.range 10).all fun m => (List.range 8).all fun k => [false, true].all fun h => decide ((-4000 ≤ (devT j h m (5 + k : Nat)).1 ∧ (devT j h m (5 + k : Nat)).1 ≤ 4000) ∧ (-4000 ≤ (devT j h m (5 + k : Nat)).2 ∧ (devT j h m (5 + k : Nat)).2 ≤ 4000))) = true := by kernel_rfl
  exact of_decide_eq_true (List.all_eq_true.1 (List.all_eq_true.1 (List.all_eq_true.1 (List.all_eq_true.1 hh j (List.mem_range.2 hj)) m (List.mem_range.2 hm)) k (List.mem_range.2 hk)) h (by cases h <;> simp))

def sIx : List AV → Tr AV
  | [a] => match snum a with
    | some (.i64, s) => .br (decide (1 ≤ s ∧ s ≤ 100000)) (.leaf (.rng .i64 (ixOf s) 0 7)) .fail
    | _ => .fail
  | _ => .fail

def sTol : List AV → Tr AV
  | [a, b] => match snum a, snum b with
    | some (.i64, s), some (.i64, g) => .br (decide ((1 ≤ s ∧ s ≤ 100000) ∧ 5 ≤ g ∧ g ≤ 12)) (.leaf (.rng .i64 (tolT (ixOf s) g) 1 4000)) .fail
    | _, _ => .fail
  | _ => .fail

def sDev : List AV → Tr AV
  | [a, .agg [b, c, d]] => match snum a, sbool? b, snum c, snum d with
    | some (.i64, s), some h, some (.i64, l), some (.i64, g) => .br (decide ((1 ≤ s ∧ s ≤ 100000) ∧ (0 ≤ l ∧ l ≤ 9) ∧ 5 ≤ g ∧ g ≤ 12))
      (.leaf (.agg [.rng .i64 (devT (ixOf s) h l g).1 (-4000) 4000, .rng .i64 (devT (ixOf s) h l g).2 (-4000) 4000])) .fail
    | _, _, _, _ => .fail
  | _ => .fail

theorem Tr.br_get {α : Type} {b : Bool} {t : Tr α} {v : α} (h : (Tr.br b t .fail).get = some v) : b = true ∧ t.get = some v := by
  cases b with
  | true => exact ⟨rfl, h⟩
  | false => cases h

theorem Ca.prim {P : Program} {prims : Prims} {f : FuncId} {g : List AV → Option AV} {args : List AV} {B : Heap} {v : AV} (hf : prims f = some fun args B => .of (only B (g args))) (hg : g args = some v) :
    Ca P prims f args B (v, B, []) := by
  refine Ev.call ⟨0, fun m _ => ?_⟩
  simp only [callF, hf, Tr.get_of, hg]
  rfl

theorem sIx_sound {f : FuncId} {prims : Prims} (hf : prims f = some fun args B => .of (only B (gIx args))) (args : List AV) (v : AV) (hg : (sIx args).get = some v) :
    ∃ args' v' B', (∀ (ι : Emb) (xs : List Value), VRL ι args xs → VRL ι args' xs) ∧ (∀ (ι : Emb) (x : Value), VR ι v' x → VR ι v x) ∧ belowL 0 args' = true ∧ below 0 v' = true ∧
      Ca prog prims f args' (Bg prog.globals.size) (v', B', []) := by
  unfold sIx at hg
  split at hg
  · rename_i a
    split at hg
    · rename_i s h1
      obtain ⟨hc, hv⟩ := Tr.br_get hg
      cases hv
      obtain ⟨hs1, hs2⟩ := of_decide_eq_true hc
      obtain ⟨p, q1, q2, q3, q4⟩ := ix_spec s hs1 hs2
      have hlt := ix_lt s
      refine ⟨[.rng .i64 s p.1 p.2], .int .i64 (ixOf s), _, fun ι xs hx => ?_, fun ι x hx => ?_, rfl, rfl, Ca.prim hf (by simp only [gIx, q4, Option.map_some])⟩
      · simp only [VRL] at hx ⊢
        obtain ⟨x, l, h6, h7, h8⟩ := hx
        exact ⟨x, l, h6, by simp only [VR]; exact ⟨snum_VR h1 h7, q2, q3⟩, h8⟩
      · simp only [VR] at hx ⊢; exact ⟨hx, by omega, by omega⟩
    · cases hg
  · cases hg

theorem sTol_sound {f : FuncId} {prims : Prims} (hf : prims f = some fun args B => .of (only B (gTol args))) (args : List AV) (v : AV) (hg : (sTol args).get = some v) :
    ∃ args' v' B', (∀ (ι : Emb) (xs : List Value), VRL ι args xs → VRL ι args' xs) ∧ (∀ (ι : Emb) (x : Value), VR ι v' x → VR ι v x) ∧ belowL 0 args' = true ∧ below 0 v' = true ∧
      Ca prog prims f args' (Bg prog.globals.size) (v', B', []) := by
  unfold sTol at hg
  split at hg
  · rename_i a b
    split at hg
    · rename_i s g h1 h2
      obtain ⟨hc, hv⟩ := Tr.br_get hg
      cases hv
      obtain ⟨⟨hs1, hs2⟩, hg1, hg2⟩ := of_decide_eq_true hc
      obtain ⟨p, q1, q2, q3, q4⟩ := ix_spec s hs1 hs2
      have hlt := ix_lt s
      obtain ⟨k, rfl, hk⟩ : ∃ k : Nat, g = ((5 + k : Nat) : Int) ∧ k < 8 := ⟨(g - 5).toNat, by omega, by omega⟩
      have hb := tol_bounds (ixOf s) k hlt hk
      refine ⟨[.rng .i64 s p.1 p.2, .int .i64 (5 + k : Nat)], .int .i64 (tolT (ixOf s) (5 + k : Nat)), _, fun ι xs hx => ?_, fun ι x hx => ?_, rfl, rfl, Ca.prim hf ?_⟩
      · simp only [VRL] at hx ⊢
        obtain ⟨x, l, h6, h7, x2, l2, h8, h9, h10⟩ := hx
        exact ⟨x, l, h6, by simp only [VR]; exact ⟨snum_VR h1 h7, q2, q3⟩, x2, l2, h8, by simp only [VR]; exact snum_VR h2 h9, h10⟩
      · simp only [VR] at hx ⊢; exact ⟨hx, hb.1, hb.2⟩
      · simp only [gTol, q4, Option.bind_some]
        rw [if_pos (by simp only [Bool.and_eq_true, decide_eq_true_eq]; omega)]
    · cases hg
  · cases hg

theorem sDev_sound {f : FuncId} {prims : Prims} (hf : prims f = some fun args B => .of (only B (gDev args))) (args : List AV) (v : AV) (hg : (sDev args).get = some v) :
    ∃ args' v' B', (∀ (ι : Emb) (xs : List Value), VRL ι args xs → VRL ι args' xs) ∧ (∀ (ι : Emb) (x : Value), VR ι v' x → VR ι v x) ∧ belowL 0 args' = true ∧ below 0 v' = true ∧
      Ca prog prims f args' (Bg prog.globals.size) (v', B', []) := by
  unfold sDev at hg
  split at hg
  · rename_i a b c d
    split at hg
    · rename_i s h l g h1 h2 h3 h4
      obtain ⟨hc, hv⟩ := Tr.br_get hg
      cases hv
      obtain ⟨⟨hs1, hs2⟩, ⟨hl1, hl2⟩, hg1, hg2⟩ := of_decide_eq_true hc
      obtain ⟨p, q1, q2, q3, q4⟩ := ix_spec s hs1 hs2
      have hlt := ix_lt s
      obtain ⟨k, rfl, hk⟩ : ∃ k : Nat, g = ((5 + k : Nat) : Int) ∧ k < 8 := ⟨(g - 5).toNat, by omega, by omega⟩
      obtain ⟨m, rfl, hm⟩ : ∃ m : Nat, l = (m : Int) ∧ m < 10 := ⟨l.toNat, by omega, by omega⟩
      have hb := dev_bounds (ixOf s) m k h hlt hm hk
      refine ⟨[.rng .i64 s p.1 p.2, .agg [.bool h, .int .i64 m, .int .i64 (5 + k : Nat)]], .agg [.int .i64 (devT (ixOf s) h m (5 + k : Nat)).1, .int .i64 (devT (ixOf s) h m (5 + k : Nat)).2], _, fun ι xs hx => ?_, fun ι x hx => ?_, rfl, rfl, Ca.prim hf ?_⟩
      · simp only [VRL, VR] at hx ⊢
        obtain ⟨x, l, h6, h7, x2, l2, h8, ⟨ys, h9, y0, l3, h10, h11, y1, l4, h12, h13, y2, l5, h14, h15, h16⟩, h17⟩ := hx
        exact ⟨x, l, h6, ⟨snum_VR h1 h7, q2, q3⟩, x2, l2, h8, ⟨ys, h9, y0, l3, h10, sbool_VR h2 h11, y1, l4, h12, snum_VR h3 h13, y2, l5, h14, snum_VR h4 h15, h16⟩, h17⟩
      · simp only [VR, VRL] at hx ⊢
        obtain ⟨ys, h9, y0, l3, h10, h11, y1, l4, h12, h13, h14⟩ := hx
        exact ⟨ys, h9, y0, l3, h10, ⟨h11, hb.1⟩, y1, l4, h12, ⟨h13, hb.2⟩, h14⟩
      · simp only [gDev, q4, Option.bind_some]
        rw [if_pos (by simp only [Bool.and_eq_true, decide_eq_true_eq]; omega)]
    · cases hg
  · cases hg

def pSymI : Prims := (pDev.addt 45 sIx).addt 46 sIx
def pSymT : Prims := (pSymI.addt 44 sTol).addt 47 sTol
/-- All of them. -/
def pSym : Prims := (pSymT.addt 41 sDev).addt 43 sDev

theorem pSym_ok {A : Amb} (hG : prog.globals.size ≤ A.G) : PrimOK prog A pSym := by
  have h0 := pDev_ok (A := A) hG
  have h1 := PrimOK.addt hmix hnum h0 hG func45 (by kernel_rfl) (sIx_sound rfl)
  have h2 := PrimOK.addt hmix hnum h1 hG func46 (by kernel_rfl) (sIx_sound rfl)
  have h3 := PrimOK.addt hmix hnum h2 hG func44 (by kernel_rfl) (sTol_sound rfl)
  have h4 := PrimOK.addt hmix hnum h3 hG func47 (by kernel_rfl) (sTol_sound rfl)
  have h5 := PrimOK.addt hmix hnum h4 hG func41 (by kernel_rfl) (sDev_sound rfl)
  exact PrimOK.addt hmix hnum h5 hG func43 (by kernel_rfl) (sDev_sound rfl)
#print axioms pSym_ok
end Go.Proofs.Tryz
