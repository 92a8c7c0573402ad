/- The lexer's program: tokens joined, by the reference. -/
import Derived.Test.YtfjgehlpjppggaaGreatDoorForm
import Derived.Test.YtfjgehlpjppggaaGreatDoorAwake2

namespace Go.Proofs.Tryz
open Go.Ad

noncomputable def code25 : Code := f25.body.getD .skip
noncomputable def bodyA : Code := unLoop (findB 0 code25)
noncomputable def bodyB : Code := unLoop (findB 2 code25)
def spA : SP := ⟨[.list 8, .drop, .drop, .drop, .int .i64] ++ dr 77, dd8 ++ [.vecT 3]⟩
def spAr : SP := ⟨[.drop, .drop, .str, .int .i64] ++ dr 78, dd8 ++ [.vecT 3]⟩
def spAx : AEx → SP
  | .ret => spAr
  | _ => spA
def spB : SP := ⟨[.list 8, .drop, .drop, .drop, .drop, .drop, .str, .int .i64] ++ dr 74, dd8 ++ [.vecT 3]⟩

def treeA (ty : Nat) (n : Nat) (i : Int) (t : Tok) (f : Nat → List AV) : Option (AEx × List Lf) :=
  brK (decide (i < (n : Int))) (brK (decide (0 ≤ i ∧ i < (n : Int))) (brK (decide (0 + i.toNat < n)) (brK (szOK t.2.1) (brK (formE t.1 t.2.1 (i == W ((n : Int) - 1)) != 0)
    (some (.ret, [.s [], .i (formE t.1 t.2.1 (i == W ((n : Int) - 1))), .n n, .r f, .n ty]))
    (some (.normal, [.n n, .i (W (i + 1)), .n n, .r f, .n ty]))) none) none) none)
    (some (.exit 0, [.n n, .i i, .n n, .r f, .n ty]))
def tY (ty : Nat) (n : Nat) (i : Int) (t : Tok) (f : Nat → List AV) (s : List UInt8) : Option (AEx × List Lf) :=
  brK (decide (0 ≤ i ∧ i < (n : Int))) (brK (decide (0 + i.toNat < n)) (brK (decide (s.length + t.2.1.length < 4611686018427387904)) (some (.normal, [.n n, .s (s ++ t.2.1), .i (W (i + 1)), .n n, .r f, .n ty])) none) none) none
def tX (ty : Nat) (n : Nat) (i : Int) (t : Tok) (f : Nat → List AV) (s : List UInt8) : Option (AEx × List Lf) :=
  brK (decide (s.length + 1 < 4611686018427387904)) (tY ty n i t f (s ++ [32])) none
def treeB (ty : Nat) (n : Nat) (i : Int) (t p : Tok) (f : Nat → List AV) (s : List UInt8) : Option (AEx × List Lf) :=
  brK (decide (i < (n : Int))) (brK (decide (0 ≤ i ∧ i < (n : Int))) (brK (decide (0 + i.toNat < n)) (brK (decide (i > 0)) (brK (decide (0 ≤ W (i - 1) ∧ W (i - 1) < (n : Int))) (brK (decide (0 + (W (i - 1)).toNat < n))
    (brK (p.1 == 0) (brK (t.1 == 0) (tX ty n i t f s) (brK (t.1 == 1) (tX ty n i t f s) (brK (p.1 == 1) (brK (t.1 == 1) (tX ty n i t f s) (tY ty n i t f s)) (tY ty n i t f s)))) (brK (p.1 == 1) (brK (t.1 == 1) (tX ty n i t f s) (tY ty n i t f s)) (tY ty n i t f s))) none) none)
    (tY ty n i t f s)) none) none)
    (some (.exit 2, [.n n, .s s, .i i, .n n, .r f, .n ty]))

theorem roundA (ty : Nat) (n : Nat) (i : Int) (r : Nat → Tok) : execK prog (runK prog pF 60) noBps bodyA (spA.rho [.n n, .i i, .n n, .r (fun i => rowT (r i)), .n ty]) (spA.heap [.n n, .i i, .n n, .r (fun i => rowT (r i)), .n ty]) (nrmP spAx 9 []) =
    treeA ty n i (r (0 + i.toNat)) (fun i => rowT (r i)) := by kernel_rfl
theorem roundB (ty : Nat) (n : Nat) (i : Int) (r : Nat → Tok) (s : List UInt8) : execK prog (runK prog pF 60) noBps bodyB (spB.rho [.n n, .s s, .i i, .n n, .r (fun i => rowT (r i)), .n ty]) (spB.heap [.n n, .s s, .i i, .n n, .r (fun i => rowT (r i)), .n ty]) (nrmP (fun _ => spB) 9 []) =
    treeB ty n i (r (0 + i.toNat)) (r (0 + (W (i - 1)).toNat)) (fun i => rowT (r i)) s := by kernel_rfl

/-- The error of the first token that is not right. -/
def errJ : List Tok → Int
  | [] => 0
  | t :: r => bif formE t.1 t.2.1 r.isEmpty != 0 then formE t.1 t.2.1 r.isEmpty else errJ r
def catJ : Option Int → List Tok → List UInt8 → List UInt8
  | _, [], s => s
  | b, t :: r, s => catJ (some t.1) r (s ++ sepJ b t.1 ++ t.2.1)
theorem joinL_eq : ∀ (L : List Tok) (b : Option Int) (s : List UInt8), joinL b L s = bif errJ L != 0 then .inr (errJ L) else .inl (catJ b L s)
  | [], _, _ => rfl
  | t :: r, b, s => by
    simp only [joinL, errJ, catJ]
    cases h : formE t.1 t.2.1 r.isEmpty != 0 with
    | true => simp only [cond_true, h]
    | false => simp only [cond_false]; exact joinL_eq r _ _
theorem errJ_len : ∀ (L : List Tok), errJ L = 0 → ∀ t, t ∈ L → t.2.1.length ≤ 24
  | [], _, _, h => by cases h
  | t :: r, h0, x, hx => by
    simp only [errJ] at h0
    cases h : formE t.1 t.2.1 r.isEmpty != 0 with
    | true => rw [h, cond_true] at h0; rw [h0] at h; exact absurd h (by decide)
    | false =>
      rw [h, cond_false] at h0
      rcases List.mem_cons.mp hx with rfl | hx
      · exact form_len (l := r.isEmpty) (by simpa using h)
      · exact errJ_len r h0 x hx

section
variable {ty n i : Nat} {t p : Tok} {f : Nat → List AV} {s : List UInt8}
theorem treeA_eq (hi : i < n) (hn : n ≤ 5000) (hz : szOK t.2.1 = true) : treeA ty n i t f = some (bif formE t.1 t.2.1 (decide (i = n - 1)) != 0 then (.ret, [.s [], .i (formE t.1 t.2.1 (decide (i = n - 1))), .n n, .r f, .n ty]) else (.normal, [.n n, .i ((i + 1 : Nat) : Int), .n n, .r f, .n ty])) := by
  unfold treeA
  have e1 : W ((n : Int) - 1) = ((n - 1 : Nat) : Int) := by rw [W, wrap64 (by omega) (by omega)]; omega
  have e2 : W ((i : Int) + 1) = ((i + 1 : Nat) : Int) := by rw [W, wrap64 (by omega) (by omega)]; omega
  have e4 : ((i : Int) == ((n - 1 : Nat) : Int)) = decide (i = n - 1) := by
    by_cases e : i = n - 1
    · rw [decide_eq_true e, beq_iff_eq]; omega
    · rw [decide_eq_false e, beq_eq_false_iff_ne]; omega
  rw [e1, e2, e4, hz, Int.toNat_natCast, decide_eq_true (show (i : Int) < n by omega), decide_eq_true (show 0 ≤ (i : Int) ∧ (i : Int) < n by omega), decide_eq_true (show 0 + i < n by omega)]
  cases formE t.1 t.2.1 (decide (i = n - 1)) != 0 <;> rfl
theorem tY_eq (hi : i < n) (hn : n ≤ 5000) (hs : s.length + t.2.1.length < 4611686018427387904) : tY ty n i t f s = some (.normal, [.n n, .s (s ++ t.2.1), .i ((i + 1 : Nat) : Int), .n n, .r f, .n ty]) := by
  unfold tY
  have e2 : W ((i : Int) + 1) = ((i + 1 : Nat) : Int) := by rw [W, wrap64 (by omega) (by omega)]; omega
  rw [e2, Int.toNat_natCast, decide_eq_true (show 0 ≤ (i : Int) ∧ (i : Int) < n by omega), decide_eq_true (show 0 + i < n by omega), decide_eq_true hs]; rfl
theorem treeB_eq (hi : i < n) (hn : n ≤ 5000) (ht : t.2.1.length ≤ 24) (hs : s.length ≤ 25 * i) :
    treeB ty n i t p f s = some (.normal, [.n n, .s (s ++ sepJ (bif decide (0 < i) then some p.1 else none) t.1 ++ t.2.1), .i ((i + 1 : Nat) : Int), .n n, .r f, .n ty]) := by
  unfold treeB
  have hy : tY ty n i t f s = some (.normal, [.n n, .s (s ++ [] ++ t.2.1), .i ((i + 1 : Nat) : Int), .n n, .r f, .n ty]) := by rw [List.append_nil]; exact tY_eq hi hn (by omega)
  have hx : tX ty n i t f s = some (.normal, [.n n, .s (s ++ [32] ++ t.2.1), .i ((i + 1 : Nat) : Int), .n n, .r f, .n ty]) := by
    unfold tX
    rw [decide_eq_true (by omega), tY_eq hi hn (by simp; omega)]; rfl
  rw [hx, hy, Int.toNat_natCast, decide_eq_true (show (i : Int) < n by omega), decide_eq_true (show 0 ≤ (i : Int) ∧ (i : Int) < n by omega), decide_eq_true (show 0 + i < n by omega)]
  by_cases h0 : 0 < i
  · have e3 : W ((i : Int) - 1) = ((i - 1 : Nat) : Int) := by rw [W, wrap64 (by omega) (by omega)]; omega
    rw [decide_eq_true (show (i : Int) > 0 by omega), e3, Int.toNat_natCast, decide_eq_true (show 0 ≤ ((i - 1 : Nat) : Int) ∧ ((i - 1 : Nat) : Int) < n by omega), decide_eq_true (show 0 + (i - 1) < n by omega), decide_eq_true h0]
    simp only [sepJ, apartB, cond_true]
    cases h1 : p.1 == 0 <;> cases h2 : t.1 == 0 <;> cases h3 : t.1 == 1 <;> cases h4 : p.1 == 1 <;> simp_all [brK]
  · rw [decide_eq_false (show ¬ (i : Int) > 0 by omega), decide_eq_false h0]
    simp [brK, sepJ]
end
end Go.Proofs.Tryz

/- The lexer's program: the loops of the reference's Join. -/
namespace Go.Proofs.Tryz
open Go.Ad

theorem drop_tok {L : List Tok} {i : Nat} (hi : i < L.length) : ∃ t M, L.drop i = t :: M ∧ L.getD i tok0 = t ∧ L.drop (i + 1) = M ∧ t ∈ L ∧ M.isEmpty = decide (i = L.length - 1) := by
  refine ⟨L[i], L.drop (i + 1), List.drop_eq_getElem_cons hi, ?_, rfl, List.getElem_mem hi, ?_⟩
  · rw [List.getD_eq_getElem?_getD, List.getElem?_eq_getElem hi]; rfl
  · have hl : (L.drop (i + 1)).length = L.length - (i + 1) := by rw [List.length_drop]
    cases hM : L.drop (i + 1) with
    | nil => rw [hM] at hl; simp at hl; simp; omega
    | cons a b => rw [hM] at hl; simp at hl; simp; omega

def lfA (ty : Nat) (L : List Tok) (i : Nat) : List Lf := [.n L.length, .i (i : Int), .n L.length, .r (rowsT L), .n ty]
def lfB (ty : Nat) (L : List Tok) (x : Nat × List UInt8) : List Lf := [.n L.length, .s x.2, .i (x.1 : Int), .n L.length, .r (rowsT L), .n ty]
def outA (ty : Nat) (L : List Tok) : AEx × St :=
  bif errJ L != 0 then (.ret, ⟨spAr.rho [.s [], .i (errJ L), .n L.length, .r (rowsT L), .n ty], spAr.heap [.s [], .i (errJ L), .n L.length, .r (rowsT L), .n ty], []⟩)
  else (.exit 0, ⟨spA.rho (lfA ty L L.length), spA.heap (lfA ty L L.length), []⟩)

section
variable {A : Amb} (hT : Tab A) (hG : prog.globals.size ≤ A.G)
include hT hG

theorem loopA (ty : Nat) (L : List Tok) (hL : L.length ≤ 4097) (hz : ∀ t, t ∈ L → szOK t.2.1 = true) {Bb : Heap} (hB : Bb.length = 9) :
    SEB prog A Bb (.loop bodyA) ⟨spA.rho (lfA ty L 0), spA.heap (lfA ty L 0), []⟩ (outA ty L).1 (outA ty L).2 := by
  have hp := pF_ok hT hG
  have hok : ∀ e, okD 9 [] 0 (spAx e).h = true := fun e => by cases e <;> rfl
  refine SEB.while (fun i : Nat => i ≤ L.length ∧ errJ (L.drop i) = errJ L) (fun i => L.length - i) (fun i => ⟨spA.rho (lfA ty L i), spA.heap (lfA ty L i), []⟩) (fun _ => outA ty L) (fun i hx => ?_) 0 ⟨Nat.zero_le _, rfl⟩
  obtain ⟨h1, h3⟩ := hx
  have hk := roundA ty L.length i (fun i => L.getD i tok0)
  rw [Int.toNat_natCast, Nat.zero_add] at hk
  by_cases hi : i < L.length
  · obtain ⟨t, M, hd, ht, hM, htm, hlast⟩ := drop_tok hi
    rw [ht, treeA_eq hi (by omega) (hz t htm)] at hk
    rw [hd] at h3
    simp only [errJ, hlast] at h3
    cases he : formE t.1 t.2.1 (decide (i = L.length - 1)) != 0 with
    | true =>
      right
      rw [he, cond_true] at hk h3
      have ho : outA ty L = (.ret, ⟨spAr.rho [.s [], .i (errJ L), .n L.length, .r (rowsT L), .n ty], spAr.heap [.s [], .i (errJ L), .n L.length, .r (rowsT L), .n ty], []⟩) := by
        unfold outA; rw [← h3, he]; rfl
      rw [ho, ← h3]
      exact ⟨by simp, SEB.of_KP (e := .ret) (sp := spAx) hmix hnum hp (.none _) hB hk (hok .ret)⟩
    | false =>
      left
      rw [he, cond_false] at hk h3
      exact ⟨i + 1, ⟨by omega, by rw [hM]; exact h3⟩, by omega, rfl, SEB.of_KP (e := .normal) (sp := spAx) hmix hnum hp (.none _) hB hk (hok .normal)⟩
  · right
    have e : i = L.length := by omega
    subst e
    rw [List.drop_length] at h3
    have ho : outA ty L = (.exit 0, ⟨spA.rho (lfA ty L L.length), spA.heap (lfA ty L L.length), []⟩) := by
      unfold outA; rw [← h3]; rfl
    rw [ho]
    unfold treeA at hk
    rw [decide_eq_false (show ¬ ((L.length : Nat) : Int) < (L.length : Int) by omega)] at hk
    exact ⟨by simp, SEB.of_KP (e := .exit 0) (sp := spAx) hmix hnum hp (.none _) hB hk (hok _)⟩

theorem loopB (ty : Nat) (L : List Tok) (hL : L.length ≤ 4097) (h0 : errJ L = 0) {Bb : Heap} (hB : Bb.length = 9) :
    SEB prog A Bb (.loop bodyB) ⟨spB.rho (lfB ty L (0, [])), spB.heap (lfB ty L (0, [])), []⟩ (.exit 2) ⟨spB.rho (lfB ty L (L.length, catJ none L [])), spB.heap (lfB ty L (L.length, catJ none L [])), []⟩ := by
  have hp := pF_ok hT hG
  have hok : okD 9 [] 0 spB.h = true := rfl
  refine SEB.while (fun x : Nat × List UInt8 => x.1 ≤ L.length ∧ x.2.length ≤ 25 * x.1 ∧ catJ (befJ L x.1) (L.drop x.1) x.2 = catJ none L []) (fun x => L.length - x.1) (fun x => ⟨spB.rho (lfB ty L x), spB.heap (lfB ty L x), []⟩) (fun _ => (.exit 2, ⟨spB.rho (lfB ty L (L.length, catJ none L [])), spB.heap (lfB ty L (L.length, catJ none L [])), []⟩)) (fun x hx => ?_) (0, []) ⟨Nat.zero_le _, by simp, by simp [befJ]⟩
  obtain ⟨i, s⟩ := x
  obtain ⟨h1, h2, h3⟩ := hx
  simp only at h1 h2 h3 ⊢
  have hk := roundB ty L.length i (fun i => L.getD i tok0) s
  rw [Int.toNat_natCast, Nat.zero_add] at hk
  by_cases hi : i < L.length
  · obtain ⟨t, M, hd, ht, hM, htm, hlast⟩ := drop_tok hi
    have hl := errJ_len L h0 t htm
    rw [ht, treeB_eq hi (by omega) hl h2] at hk
    rw [hd] at h3
    simp only [catJ] at h3
    have hb : (bif decide (0 < i) then some (L.getD (0 + (W ((i : Int) - 1)).toNat) tok0).1 else none) = befJ L i := by
      unfold befJ
      by_cases h0 : 0 < i
      · have e3 : W ((i : Int) - 1) = ((i - 1 : Nat) : Int) := by rw [W, wrap64 (by omega) (by omega)]; omega
        rw [e3, Int.toNat_natCast, Nat.zero_add]
      · rw [decide_eq_false h0]; rfl
    rw [hb] at hk
    left
    have hsep : (sepJ (befJ L i) t.1).length ≤ 1 := by
      unfold sepJ
      split
      · cases apartB _ t.1 <;> simp
      · simp
    have h5 : befJ L (i + 1) = some t.1 := by
      unfold befJ
      rw [decide_eq_true (Nat.succ_pos i), Nat.add_sub_cancel, ht]; rfl
    exact ⟨(i + 1, s ++ sepJ (befJ L i) t.1 ++ t.2.1), ⟨by simp only; omega, by simp only [List.length_append]; omega, by simp only; rw [hM, h5]; exact h3⟩, by simp only; omega, trivial, SEB.of_KP (e := .normal) (sp := fun _ => spB) hmix hnum hp (.none _) hB hk hok⟩
  · right
    have e : i = L.length := by omega
    subst e
    rw [List.drop_length] at h3
    simp only [catJ] at h3
    rw [← h3]
    unfold treeB at hk
    rw [decide_eq_false (show ¬ ((L.length : Nat) : Int) < (L.length : Int) by omega)] at hk
    exact ⟨by simp, SEB.of_KP (e := .exit 2) (sp := fun _ => spB) hmix hnum hp (.none _) hB hk hok⟩
end

noncomputable def hookA : Blk := hookP spA 9 [] fun
  | [.n n, .i i, .n n', .r f, .n ty] => .br (propB (n' = n ∧ i = 0 ∧ isToks n f ∧ n ≤ 4097)) (.br (errJ (toksOf n f) != 0) (.leaf (.ret, spAr, [.s [], .i (errJ (toksOf n f)), .n n, .r f, .n ty])) (.leaf (.normal, spA, [.n n, .i n, .n n, .r f, .n ty]))) .fail
  | _ => .fail
noncomputable def hookB : Blk := hookP spB 9 [] fun
  | [.n n, .s s, .i i, .n n', .r f, .n ty] => .br (propB (n' = n ∧ i = 0 ∧ s = [] ∧ isToks n f ∧ n ≤ 4097 ∧ errJ (toksOf n f) = 0)) (.leaf (.normal, spB, [.n n, .s (catJ none (toksOf n f) []), .i n, .n n, .r f, .n ty])) .fail
  | _ => .fail
noncomputable def pJ25 : Prims := (pF.addb 25 0 hookA).addb 25 2 hookB

theorem pJ25_ok {A : Amb} (hT : Tab A) (hG : prog.globals.size ≤ A.G) : PrimOK prog A pJ25 := by
  refine ((pF_ok hT hG).addb func25 (show f25.body = some code25 by kernel_rfl) (body := .loop bodyA) (by kernel_rfl) (hookP_ok (by rfl) fun ls e sq l h => ?_)).addb func25 (show f25.body = some code25 by kernel_rfl) (body := .loop bodyB) (by kernel_rfl) (hookP_ok (by rfl) fun ls e sq l h => ?_)
  · split at h
    · rename_i n i n' f ty
      obtain ⟨hc, hv⟩ := Tr.br1 h
      clear h
      obtain ⟨h1, h2, ⟨h7, h8⟩, h9⟩ := propB_eq hc
      obtain ⟨L, hL⟩ : ∃ L, L = toksOf n f := ⟨_, rfl⟩
      have hn : n = L.length := by rw [hL]; simp [toksOf]
      rw [← hL] at h7 h8 hv
      subst h1 h2
      subst hn h7
      have key := fun (Bb : Heap) (hB : Bb.length = 9) => loopA hT hG ty L h9 h8 hB
      unfold outA at key
      cases he : errJ L != 0 with
      | true =>
        rw [he] at hv
        simp only [Tr.get, Option.some.injEq, Prod.mk.injEq] at hv
        obtain ⟨rfl, rfl, rfl⟩ := hv
        refine ⟨⟨.inr rfl, .inr rfl, .inr rfl, .inr rfl, .inr rfl, .inr rfl, .inr rfl, .inr rfl, .inr rfl, trivial⟩, fun Bb hB => SEB.block_other (id := 0) ?_ (by simp)⟩
        have := key Bb hB
        rw [he] at this
        exact this
      | false =>
        rw [he] at hv
        simp only [Tr.get, Option.some.injEq, Prod.mk.injEq] at hv
        obtain ⟨rfl, rfl, rfl⟩ := hv
        refine ⟨⟨.inr rfl, .inr rfl, .inr rfl, .inr rfl, .inr rfl, .inr rfl, .inr rfl, .inr rfl, .inr rfl, trivial⟩, fun Bb hB => SEB.block_exit (id := 0) ?_⟩
        have := key Bb hB
        rw [he] at this
        exact this
    · cases h
  · split at h
    · rename_i n s i n' f ty
      obtain ⟨hc, hv⟩ := Tr.br1 h
      clear h
      obtain ⟨h1, h2, h3, ⟨h7, h8⟩, h9, h10⟩ := propB_eq hc
      obtain ⟨L, hL⟩ : ∃ L, L = toksOf n f := ⟨_, rfl⟩
      have hn : n = L.length := by rw [hL]; simp [toksOf]
      rw [← hL] at h7 h8 h10 hv
      subst h1 h2 h3
      subst hn h7
      cases hv
      exact ⟨⟨.inr rfl, .inr rfl, .inr rfl, .inr rfl, .inr rfl, .inr rfl, .inr rfl, .inr rfl, .inr rfl, trivial⟩, fun Bb hB => SEB.block_exit (id := 2) (loopB hT hG ty L h9 h10 hB)⟩
    · cases h
end Go.Proofs.Tryz

/- The lexer's program: the contract of the reference's Join. -/
namespace Go.Proofs.Tryz
open Go.Ad

noncomputable def treeM (ty : Nat) (n : Nat) (f : Nat → List AV) (L : List Tok) : Option (List Lf) :=
  brK (decide ((n : Int) > 4097)) (some [.s [], .i 5, .n n, .r f, .n ty]) (brK (propB (n = n ∧ (0 : Int) = 0 ∧ isToks n f ∧ n ≤ 4097)) (brK (errJ L != 0) (some [.s [], .i (errJ L), .n n, .r f, .n ty])
    (brK (propB (n = n ∧ (0 : Int) = 0 ∧ ([] : List UInt8) = [] ∧ isToks n f ∧ n ≤ 4097 ∧ errJ L = 0)) (brK (decide (((catJ none L []).length : Int) > 4096)) (some [.s [], .i 17, .n n, .r f, .n ty]) (some [.s (catJ none L []), .i 0, .n n, .r f, .n ty])) none)) none)

theorem run25 (ty : Nat) (n : Nat) (f : Nat → List AV) : (runK prog pJ25 60).call 25 (spJ.rho [.n n, .n n, .r f, .n ty]) (spJ.heap [.n n, .n n, .r f, .n ty]) (finQ sqJ 9 []) = treeM ty n f (toksOf n f) := by kernel_rfl

theorem treeM_eq {ty n : Nat} {f : Nat → List AV} (h : isToks n f) : treeM ty n f (toksOf n f) = some [.s (joinR (toksOf n f)).1, .i (joinR (toksOf n f)).2, .n n, .r f, .n ty] := by
  unfold treeM joinR
  rw [toksOf_len, joinL_eq]
  by_cases hn : n ≤ 4097
  · rw [decide_eq_false (show ¬ (n : Int) > 4097 by omega), decide_eq_true hn, propB_true (show _ ∧ _ from ⟨rfl, rfl, h, hn⟩)]
    cases he : errJ (toksOf n f) != 0 with
    | true => rfl
    | false =>
      rw [propB_true (show _ ∧ _ from ⟨rfl, rfl, rfl, h, hn, by simpa using he⟩)]
      simp only [cond_false, cond_true]
      by_cases hs : (catJ none (toksOf n f) []).length ≤ 4096
      · rw [decide_eq_false (show ¬ ((catJ none (toksOf n f) []).length : Int) > 4096 by omega), decide_eq_true hs]; rfl
      · rw [decide_eq_true (show ((catJ none (toksOf n f) []).length : Int) > 4096 by omega), decide_eq_false hs]; rfl
  · rw [decide_eq_true (show (n : Int) > 4097 by omega), decide_eq_false hn]; rfl

noncomputable def pJ : Prims := pJ4.addh 25 (liftG 8 (funQ spJ 9 [] TJo))
theorem pJ_ok {A : Amb} (hT : Tab A) (hG : prog.globals.size ≤ A.G) : PrimOK prog A pJ := by
  refine (pJ4_ok hT hG).addl gsz func25 (by kernel_rfl) (funQ_ok hmix hnum rfl fun ls sq l h => ?_)
  unfold TJo at h
  split at h
  · rename_i n n' f ty
    obtain ⟨hc, hv⟩ := Tr.br1 h
    obtain ⟨rfl, h2⟩ := propB_eq hc
    cases hv
    exact ⟨fr9 _ _ _ _ _, rfl, pJ25, 60, _, pJ25_ok hT hG, (run25 _ _ f).trans (treeM_eq h2), fun _ _ => .refl⟩
  · cases h
end Go.Proofs.Tryz

/- The lexer's program: the reference's Same. -/
namespace Go.Proofs.Tryz
open Go.Ad

noncomputable def code20 : Code := f20.body.getD .skip
noncomputable def body20 : Code := unLoop (findB 0 code20)
def spQ : SP := ⟨[.list 8, .list 9, .drop, .drop, .drop, .int .i64] ++ dr 20, dd8 ++ [.vec 3 52, .vec 3 52]⟩
def spQr : SP := ⟨[.drop, .drop, .drop, .drop, .bool] ++ dr 21, dd8 ++ [.vec 3 52, .vec 3 52]⟩
def spQx : AEx → SP
  | .ret => spQr
  | _ => spQ
def lfQ (n m : Nat) (i : Int) (f g : Nat → List AV) : List Lf := [.n n, .n m, .i i, .n n, .r f, .n m, .r g]
def sameT (t u : Tok) : Bool := t.1 == u.1 && (t.2.1 == u.2.1 && (t.2.2 == u.2.2 && true))
def treeQ (n m : Nat) (i : Int) (t u : Tok) (f g : Nat → List AV) : Option (AEx × List Lf) :=
  brK (decide (i < (n : Int))) (brK (decide (0 ≤ i ∧ i < (n : Int))) (brK (decide (0 + i.toNat < n)) (brK (decide (0 ≤ i ∧ i < (m : Int))) (brK (decide (0 + i.toNat < m)) (brK (!(sameT t u))
    (some (.ret, [.b false, .n n, .r f, .n m, .r g])) (some (.normal, lfQ n m (W (i + 1)) f g))) none) none) none) none)
    (some (.exit 0, lfQ n m i f g))
theorem round20 (n m : Nat) (i : Int) (r q : Nat → Tok) : execK prog (runK prog pJ 60) noBps body20 (spQ.rho (lfQ n m i (fun i => rowT (r i)) (fun i => rowT (q i)))) (spQ.heap (lfQ n m i (fun i => rowT (r i)) (fun i => rowT (q i)))) (nrmP spQx 10 []) =
    treeQ n m i (r (0 + i.toNat)) (q (0 + i.toNat)) (fun i => rowT (r i)) (fun i => rowT (q i)) := by kernel_rfl
theorem sameT_eq (t u : Tok) : sameT t u = decide (t = u) := by
  obtain ⟨a, b, c⟩ := t
  obtain ⟨a', b', c'⟩ := u
  by_cases h : (a, b, c) = (a', b', c')
  · cases h; simp [sameT]
  · rw [decide_eq_false h]
    cases hs : sameT (a, b, c) (a', b', c') with
    | false => rfl
    | true =>
      simp only [sameT, Bool.and_true, Bool.and_eq_true, beq_iff_eq] at hs
      exact absurd (by rw [hs.1, hs.2.1, hs.2.2]) h

theorem treeQ_eq {n i : Nat} {t u : Tok} {f g : Nat → List AV} (hi : i < n) (hn : n ≤ 5000) : treeQ n n i t u f g = some (bif decide (t = u) then (.normal, lfQ n n ((i + 1 : Nat) : Int) f g) else (.ret, [.b false, .n n, .r f, .n n, .r g])) := by
  unfold treeQ
  have e2 : W ((i : Int) + 1) = ((i + 1 : Nat) : Int) := by rw [W, wrap64 (by omega) (by omega)]; omega
  rw [e2, sameT_eq, Int.toNat_natCast, decide_eq_true (show (i : Int) < n by omega), decide_eq_true (show 0 ≤ (i : Int) ∧ (i : Int) < n by omega), decide_eq_true (show 0 + i < n by omega)]
  cases decide (t = u) <;> rfl

def outQ (L M : List Tok) : AEx × St :=
  bif decide (L = M) then (.exit 0, ⟨spQ.rho (lfQ L.length L.length L.length (rowsT L) (rowsT M)), spQ.heap (lfQ L.length L.length L.length (rowsT L) (rowsT M)), []⟩)
  else (.ret, ⟨spQr.rho [.b false, .n L.length, .r (rowsT L), .n L.length, .r (rowsT M)], spQr.heap [.b false, .n L.length, .r (rowsT L), .n L.length, .r (rowsT M)], []⟩)

section
variable {A : Amb} (hT : Tab A) (hG : prog.globals.size ≤ A.G)
include hT hG

theorem loopQ (L M : List Tok) (hL : L.length ≤ 4097) (hM : M.length = L.length) {Bb : Heap} (hB : Bb.length = 10) :
    SEB prog A Bb (.loop body20) ⟨spQ.rho (lfQ L.length L.length 0 (rowsT L) (rowsT M)), spQ.heap (lfQ L.length L.length 0 (rowsT L) (rowsT M)), []⟩ (outQ L M).1 (outQ L M).2 := by
  have hp := pJ_ok hT hG
  have hok : ∀ e, okD 10 [] 0 (spQx e).h = true := fun e => by cases e <;> rfl
  refine SEB.while (fun i : Nat => i ≤ L.length ∧ decide (L.drop i = M.drop i) = decide (L = M)) (fun i => L.length - i) (fun i => ⟨spQ.rho (lfQ L.length L.length i (rowsT L) (rowsT M)), spQ.heap (lfQ L.length L.length i (rowsT L) (rowsT M)), []⟩) (fun _ => outQ L M) (fun i hx => ?_) 0 ⟨Nat.zero_le _, rfl⟩
  obtain ⟨h1, h3⟩ := hx
  have hk := round20 L.length L.length i (fun i => L.getD i tok0) (fun i => M.getD i tok0)
  rw [Int.toNat_natCast, Nat.zero_add] at hk
  by_cases hi : i < L.length
  · obtain ⟨t, L', hd, ht, hL', _, _⟩ := drop_tok hi
    obtain ⟨u, M', hd2, hu, hM', _, _⟩ := drop_tok (L := M) (i := i) (by omega)
    rw [ht, hu, treeQ_eq hi (by omega)] at hk
    rw [hd, hd2] at h3
    cases he : decide (t = u) with
    | true =>
      left
      rw [he, cond_true] at hk
      have e := of_decide_eq_true he
      refine ⟨i + 1, ⟨by omega, ?_⟩, by omega, rfl, SEB.of_KP (e := .normal) (sp := spQx) hmix hnum hp (.none _) hB hk (hok .normal)⟩
      rw [hL', hM', ← h3, e]
      simp
    | false =>
      right
      rw [he, cond_false] at hk
      have e := of_decide_eq_false he
      have h4 : decide (L = M) = false := by rw [← h3]; simp [e]
      have ho : outQ L M = (.ret, ⟨spQr.rho [.b false, .n L.length, .r (rowsT L), .n L.length, .r (rowsT M)], spQr.heap [.b false, .n L.length, .r (rowsT L), .n L.length, .r (rowsT M)], []⟩) := by
        unfold outQ; rw [h4]; rfl
      rw [ho]
      exact ⟨by simp, SEB.of_KP (e := .ret) (sp := spQx) hmix hnum hp (.none _) hB hk (hok .ret)⟩
  · right
    have e : i = L.length := by omega
    subst e
    rw [List.drop_length, ← hM, List.drop_length] at h3
    have ho : outQ L M = (.exit 0, ⟨spQ.rho (lfQ L.length L.length L.length (rowsT L) (rowsT M)), spQ.heap (lfQ L.length L.length L.length (rowsT L) (rowsT M)), []⟩) := by
      unfold outQ; rw [← h3]; rfl
    rw [ho]
    unfold treeQ at hk
    rw [decide_eq_false (show ¬ ((L.length : Nat) : Int) < (L.length : Int) by omega)] at hk
    exact ⟨by simp, SEB.of_KP (e := .exit 0) (sp := spQx) hmix hnum hp (.none _) hB hk (hok _)⟩
end

noncomputable def hookQ : Blk := hookP spQ 10 [] fun
  | [.n n, .n m, .i i, .n n', .r f, .n m', .r g] => .br (propB (m = n ∧ n' = n ∧ m' = n ∧ i = 0 ∧ f = rowsT (toksOf n f) ∧ g = rowsT (toksOf n g) ∧ n ≤ 4097)) (.br (decide (toksOf n f = toksOf n g)) (.leaf (.normal, spQ, lfQ n n n f g)) (.leaf (.ret, spQr, [.b false, .n n, .r f, .n n, .r g]))) .fail
  | _ => .fail
noncomputable def pQ20 : Prims := pJ.addb 20 0 hookQ

theorem pQ20_ok {A : Amb} (hT : Tab A) (hG : prog.globals.size ≤ A.G) : PrimOK prog A pQ20 := by
  refine (pJ_ok hT hG).addb func20 (show f20.body = some code20 by kernel_rfl) (body := .loop body20) (by kernel_rfl) (hookP_ok (by rfl) fun ls e sq l h => ?_)
  split at h
  · rename_i n m i n' f m' g
    obtain ⟨hc, hv⟩ := Tr.br1 h
    clear h
    obtain ⟨h1, h2, h3, h4, h5, h6, h7⟩ := propB_eq hc
    have h1 := h1.symm
    have h2 := h2.symm
    have h3 := h3.symm
    subst h1 h2 h3 h4
    obtain ⟨L, hL⟩ : ∃ L, L = toksOf n f := ⟨_, rfl⟩
    obtain ⟨M, hM⟩ : ∃ M, M = toksOf n g := ⟨_, rfl⟩
    have hn : n = L.length := by rw [hL]; simp [toksOf]
    have hn2 : M.length = n := by rw [hM]; simp [toksOf]
    rw [← hL, ← hM] at hv
    rw [← hL] at h5
    rw [← hM] at h6
    subst hn h5 h6
    have key := fun (Bb : Heap) (hB : Bb.length = 10) => loopQ hT hG L M h7 hn2 hB
    unfold outQ at key
    cases he : decide (L = M) with
    | true =>
      rw [he] at hv
      simp only [Tr.get, Option.some.injEq, Prod.mk.injEq] at hv
      obtain ⟨rfl, rfl, rfl⟩ := hv
      refine ⟨⟨.inr rfl, .inr rfl, .inr rfl, .inr rfl, .inr rfl, .inr rfl, .inr rfl, .inr rfl, .inr rfl, .inr rfl, trivial⟩, fun Bb hB => SEB.block_exit (id := 0) ?_⟩
      have := key Bb hB
      rw [he] at this
      exact this
    | false =>
      rw [he] at hv
      simp only [Tr.get, Option.some.injEq, Prod.mk.injEq] at hv
      obtain ⟨rfl, rfl, rfl⟩ := hv
      refine ⟨⟨.inr rfl, .inr rfl, .inr rfl, .inr rfl, .inr rfl, .inr rfl, .inr rfl, .inr rfl, .inr rfl, .inr rfl, trivial⟩, fun Bb hB => SEB.block_other (id := 0) ?_ (by simp)⟩
      have := key Bb hB
      rw [he] at this
      exact this
  · cases h

/-! The contract. -/
def spQ2 : SP := ⟨[.list 8, .list 9], dd8 ++ [.vec 3 52, .vec 3 52]⟩
def sqQ2 : SP := ⟨[.bool], dd8 ++ [.vec 3 52, .vec 3 52]⟩
noncomputable def TQ : List Lf → Tr (SP × List Lf)
  | [.n n, .n m, .n n', .r f, .n m', .r g] => .br (propB (n' = n ∧ m' = m ∧ f = rowsT (toksOf n f) ∧ g = rowsT (toksOf m g) ∧ n ≤ 4097)) (.leaf (sqQ2, [.b (decide (toksOf n f = toksOf m g)), .n n, .r f, .n m, .r g])) .fail
  | _ => .fail
end Go.Proofs.Tryz

/- The lexer's program: the contract of the reference's Same. -/
namespace Go.Proofs.Tryz
open Go.Ad

noncomputable def tree20 (n m : Nat) (f g : Nat → List AV) (L M : List Tok) : Option (List Lf) :=
  brK ((n : Int) != m) (some [.b false, .n n, .r f, .n m, .r g]) (brK (propB (m = n ∧ n = n ∧ m = n ∧ (0 : Int) = 0 ∧ f = rowsT (toksOf n f) ∧ g = rowsT (toksOf n g) ∧ n ≤ 4097)) (brK (decide (L = M)) (some [.b true, .n n, .r f, .n m, .r g]) (some [.b false, .n n, .r f, .n m, .r g])) none)
theorem run20 (n m : Nat) (f g : Nat → List AV) : (runK prog pQ20 60).call 20 (spQ2.rho [.n n, .n m, .n n, .r f, .n m, .r g]) (spQ2.heap [.n n, .n m, .n n, .r f, .n m, .r g]) (finP sqQ2 10 []) = tree20 n m f g (toksOf n f) (toksOf n g) := by kernel_rfl

theorem tree20_eq {n m : Nat} {f g : Nat → List AV} (hf : f = rowsT (toksOf n f)) (hg : g = rowsT (toksOf m g)) (hn : n ≤ 4097) : tree20 n m f g (toksOf n f) (toksOf n g) = some [.b (decide (toksOf n f = toksOf m g)), .n n, .r f, .n m, .r g] := by
  unfold tree20
  by_cases h : n = m
  · subst h
    rw [show ((n : Int) != n) = false by simp, propB_true (show _ ∧ _ from ⟨rfl, rfl, rfl, rfl, hf, hg, hn⟩)]
    cases decide (toksOf n f = toksOf n g) <;> rfl
  · rw [show ((n : Int) != m) = true by simp; omega]
    have : decide (toksOf n f = toksOf m g) = false := decide_eq_false fun e => h (by rw [← toksOf_len n f, e, toksOf_len])
    rw [this]; rfl

noncomputable def pQ : Prims := pJ.addh 20 (liftG 8 (funP spQ2 10 [] TQ))
theorem pQ_ok {A : Amb} (hT : Tab A) (hG : prog.globals.size ≤ A.G) : PrimOK prog A pQ := by
  refine (pJ_ok hT hG).addl gsz func20 (by kernel_rfl) (funP_ok hmix hnum rfl fun ls sq l h => ?_)
  unfold TQ at h
  split at h
  · rename_i n m n' f m' g
    obtain ⟨hc, hv⟩ := Tr.br1 h
    obtain ⟨rfl, rfl, h2, h3, h4⟩ := propB_eq hc
    cases hv
    exact ⟨⟨.inr rfl, .inr rfl, .inr rfl, .inr rfl, .inr rfl, .inr rfl, .inr rfl, .inr rfl, .inr rfl, .inr rfl, trivial⟩, rfl, rfl, pQ20, 60, pQ20_ok hT hG, (run20 _ _ f g).trans (tree20_eq h2 h3 h4)⟩
  · cases h

noncomputable def pR : Prims := withAwake pQ
theorem pR_ok {A : Amb} (hT : Tab A) (hG : prog.globals.size ≤ A.G) : PrimOK prog A pR := withAwake_ok hT hG (pQ_ok hT hG)
end Go.Proofs.Tryz
