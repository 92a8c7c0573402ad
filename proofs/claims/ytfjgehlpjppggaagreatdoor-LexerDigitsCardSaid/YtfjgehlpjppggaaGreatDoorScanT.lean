/- The lexer's program: the tokens of a text: the loops of both scans. -/
import Derived.Test.YtfjgehlpjppggaaGreatDoorWord
namespace Go.Proofs.Tryz
open Go.Ad
abbrev Tok := Int × List UInt8 × Int
def tok0 : Tok := (0, [], 0)
def rowT (x : Tok) : List AV := [.sint .i64 x.1, .sstr x.2.1, .sint .i64 x.2.2]
abbrev rowsT (L : List Tok) : Nat → List AV := rowsL rowT tok0 L
theorem rowT_tag (y : Tok) : tagL (rowT y) = some [.n .i64, .s, .n .i64] := rfl
def spSc (k : Nat) : SP := ⟨[.str, .drop, .drop, .drop, .drop, .list 8, .int .i64] ++ dr k, dd8 ++ [.vec 3 52]⟩
def spSe (k : Nat) : SP := ⟨[.str, .drop, .drop, .drop, .drop, .list 8, .drop] ++ dr k, dd8 ++ [.vec 3 52]⟩
def spSr (k : Nat) : SP := ⟨[.drop, .drop, .is (.slice none 0 0), .int .i64, .int .i64, .drop, .drop] ++ dr k, dd8 ++ [.vec 3 52]⟩
def lfRsn (a e : Int) : List Lf := [.i a, .i e, .n 0, .r (fun _ => [])]
def spSx (k : Nat) : AEx → SP
 | .ret => spSr k
 | .normal => spSc k
 | .exit _ => spSe k
noncomputable def code18 : Code := f18.body.getD .skip
noncomputable def body18 : Code := unLoop (findB 0 code18)
def lfScn (s : List UInt8) (a : Int) (n : Nat) (r : Nat → List AV) : List Lf := [.s s, .n n, .i a, .n n, .r r]
def treeS (blank : Bool) (s : List UInt8) (a : Int) (n : Nat) (r : Nat → Tok) : Option (AEx × List Lf) :=
 brK (decide (a < (s.length : Int))) (brK (decide (0 ≤ a ∧ a < (s.length : Int))) (brK blank (some (.normal, lfScn s (W (a + 1)) n (fun i => rowT (r i))))
  (brK (true && decide (0 ≤ a ∧ a ≤ (s.length : Int))) (brK (szOK (List.drop a.toNat (List.take s.length s)) && !(List.drop a.toNat (List.take s.length s)).isEmpty)
   (brK ((tokK (List.drop a.toNat (List.take s.length s))).2.2 != 0) (some (.ret, lfRsn a (tokK (List.drop a.toNat (List.take s.length s))).2.2))
    (brK (decide (0 ≤ W (a + ((tokK (List.drop a.toNat (List.take s.length s))).2.1 : Int)) ∧ W (a + ((tokK (List.drop a.toNat (List.take s.length s))).2.1 : Int)) ≤ (s.length : Int)) &&
       decide (0 ≤ a ∧ a ≤ ((W (a + ((tokK (List.drop a.toNat (List.take s.length s))).2.1 : Int))).toNat : Int)))
     (brK (decide (n + 1 < 2147483648 ∧ n = n)) (some (.normal, lfScn s (W (a + ((tokK (List.drop a.toNat (List.take s.length s))).2.1 : Int))) (n + 1)
      (addRow n (fun i => rowT (r i)) [.sint .i64 (tokK (List.drop a.toNat (List.take s.length s))).1, .sstr (List.drop a.toNat (List.take (W (a + ((tokK (List.drop a.toNat (List.take s.length s))).2.1 : Int))).toNat s)), .sint .i64 a]))) none) none)) none) none)) none)
  (some (.exit 0, [.s s, .n n, .n n, .r (fun i => rowT (r i))]))
theorem round18 (s : List UInt8) (a : Int) (n : Nat) (r : Nat → Tok) : execK prog (runK prog pT 60) noBps body18 ((spSc 50).rho (lfScn s a n (fun i => rowT (r i)))) ((spSc 50).heap (lfScn s a n (fun i => rowT (r i)))) (nrmP (spSx 50) 8 [8]) = treeS (clsI (bI s a) == 5) s a n r := by kernel_rfl
end Go.Proofs.Tryz
namespace Go.Proofs.Tryz
open Go.Ad
def scanS (s : List UInt8) : Nat → Nat → List Tok → (Nat × Int) ⊕ List Tok
 | 0, _, L => .inr L
 | k + 1, a, L => bif decide (a < s.length) then
   (bif bAt s a == 32 then scanS s k (a + 1) L
    else bif (tokK (s.drop a)).2.2 != 0 then .inl (a, (tokK (s.drop a)).2.2)
    else scanS s k (a + (tokK (s.drop a)).2.1) (L ++ [((tokK (s.drop a)).1, (s.drop a).take (tokK (s.drop a)).2.1, (a : Int))]))
   else .inr L
theorem drop_ne {s : List UInt8} {a : Nat} (h : a < s.length) : (s.drop a).isEmpty = false := by
 have : 0 < (s.drop a).length := by rw [List.length_drop]; omega
 cases he : s.drop a with
 | nil => rw [he] at this; simp at this
 | cons => rfl
theorem scanS_fuel (s : List UInt8) : ∀ (k a : Nat) (L : List Tok), s.length - a ≤ k → scanS s k a L = scanS s (s.length - a) a L := by
 intro k
 induction k using Nat.strongRecOn with
 | _ k ih =>
  intro a L hk
  cases k with
  | zero => rw [show s.length - a = 0 by omega]
  | succ k =>
   by_cases ha : a < s.length
   ·obtain ⟨j, hj⟩ : ∃ j, s.length - a = j + 1 := ⟨s.length - a - 1, by omega⟩
    rw [hj]
    simp only [scanS, decide_eq_true ha, cond_true]
    cases bAt s a == 32 with
    | true =>
     simp only [cond_true]
     rw [ih k (by omega) (a + 1) L (by omega), show s.length - (a + 1) = j by omega]
    | false =>
     simp only [cond_false]
     cases he : (tokK (s.drop a)).2.2 != 0 with
     | true => rfl
     | false =>
      simp only [cond_false]
      have h0 : (tokK (s.drop a)).2.2 = 0 := by simpa using he
      have hp := (tokK_le (s.drop a) (drop_ne ha)).2 h0
      rw [ih k (by omega) _ _ (by omega), ih j (by omega) _ _ (by omega)]
   ·rw [show s.length - a = 0 by omega]
    simp only [scanS, decide_eq_false ha, cond_false]
section
variable {s : List UInt8} {a : Nat} {R : Nat → Tok} {n : Nat}
theorem treeS_end (b : Bool) (h : a = s.length) : treeS b s a n R = some (.exit 0, [.s s, .n n, .n n, .r (fun i => rowT (R i))]) := by
 unfold treeS; rw [decide_eq_false (by omega)]; rfl
theorem treeS_blank (h : a < s.length) (hs : s.length < 2 ^ 62) : treeS true s a n R = some (.normal, lfScn s ((a + 1 : Nat) : Int) n (fun i => rowT (R i))) := by
 unfold treeS
 have e1 : W ((a : Int) + 1) = ((a + 1 : Nat) : Int) := by rw [W, wrap64 (by omega) (by omega)]; omega
 rw [decide_eq_true (show (a : Int) < (s.length : Int) by omega), decide_eq_true (show 0 ≤ (a : Int) ∧ (a : Int) < (s.length : Int) by omega), e1]; rfl
theorem szOK_drop (h : s.length < 2 ^ 62) (a : Nat) : szOK (s.drop a) = true := decide_eq_true (by rw [List.length_drop]; omega)
theorem treeS_err (h : a < s.length) (hs : s.length < 2 ^ 62) (he : ((tokK (s.drop a)).2.2 != 0) = true) : treeS false s a n R = some (.ret, lfRsn a (tokK (s.drop a)).2.2) := by
 unfold treeS
 rw [decide_eq_true (show (a : Int) < (s.length : Int) by omega), decide_eq_true (show 0 ≤ (a : Int) ∧ (a : Int) < (s.length : Int) by omega), Int.toNat_natCast, List.take_length, szOK_drop hs, drop_ne h, he,
  decide_eq_true (show 0 ≤ (a : Int) ∧ (a : Int) ≤ (s.length : Int) by omega)]; rfl
theorem treeS_tok (h : a < s.length) (hs : s.length < 2 ^ 30) (hn : n ≤ s.length) (he : ((tokK (s.drop a)).2.2 != 0) = false) : treeS false s a n R =
  some (.normal, lfScn s ((a + (tokK (s.drop a)).2.1 : Nat) : Int) (n + 1) (addRow n (fun i => rowT (R i)) [.sint .i64 (tokK (s.drop a)).1, .sstr ((s.drop a).take (tokK (s.drop a)).2.1), .sint .i64 a])) := by
 have hl := (tokK_le (s.drop a) (drop_ne h)).1
 rw [List.length_drop] at hl
 unfold treeS
 rw [decide_eq_true (show (a : Int) < (s.length : Int) by omega), decide_eq_true (show 0 ≤ (a : Int) ∧ (a : Int) < (s.length : Int) by omega), Int.toNat_natCast, List.take_length, szOK_drop (by omega), drop_ne h, he,
  decide_eq_true (show 0 ≤ (a : Int) ∧ (a : Int) ≤ (s.length : Int) by omega)]
 generalize tokK (s.drop a) = t at hl
 have e1 : W ((a : Int) + (t.2.1 : Int)) = ((a + t.2.1 : Nat) : Int) := by rw [W, wrap64 (by omega) (by omega)]; omega
 rw [e1, Int.toNat_natCast, decide_eq_true (show 0 ≤ ((a + t.2.1 : Nat) : Int) ∧ ((a + t.2.1 : Nat) : Int) ≤ (s.length : Int) by omega), decide_eq_true (show 0 ≤ (a : Int) ∧ (a : Int) ≤ ((a + t.2.1 : Nat) : Int) by omega),
  decide_eq_true (show n + 1 < 2147483648 ∧ n = n by omega)]
 rw [List.drop_take, show a + t.2.1 - a = t.2.1 by omega]
 rfl
end
def stS (k : Nat) (s : List UInt8) (x : Nat × List Tok) : St := ⟨(spSc k).rho (lfScn s x.1 x.2.length (rowsT x.2)), (spSc k).heap (lfScn s x.1 x.2.length (rowsT x.2)), [8]⟩
def endS (k : Nat) (s : List UInt8) : (Nat × Int) ⊕ List Tok → AEx × St
 | .inl (a, e) => (.ret, ⟨(spSr k).rho (lfRsn a e), (spSr k).heap (lfRsn a e), [8]⟩)
 | .inr L => (.exit 0, ⟨(spSe k).rho [.s s, .n L.length, .n L.length, .r (rowsT L)], (spSe k).heap [.s s, .n L.length, .n L.length, .r (rowsT L)], [8]⟩)
theorem loopS {A : Amb} (hT : Tab A) (hG : prog.globals.size ≤ A.G) {body : Code} {k : Nat} (hk50 : k = 50 ∨ k = 49)
  (hr : ∀ (s : List UInt8) (a n : Nat) (r : Nat → Tok), execK prog (runK prog pT 60) noBps body ((spSc k).rho (lfScn s a n (fun i => rowT (r i)))) ((spSc k).heap (lfScn s a n (fun i => rowT (r i)))) (nrmP (spSx k) 8 [8]) = treeS (bAt s a == 32) s a n r)
  (s : List UInt8) (hs : s.length ≤ 4096) {Bb : Heap} (hB : Bb.length = 8) : SEB prog A Bb (.loop body) (stS k s (0, [])) (endS k s (scanS s s.length 0 [])).1 (endS k s (scanS s s.length 0 [])).2 := by
 have hp := pT_ok hT hG
 have hokD : ∀ e, okD 8 [8] 0 (spSx k e).h = true := fun e => by cases e <;> rfl
 refine SEB.while (fun x : Nat × List Tok => x.1 ≤ s.length ∧ x.2.length ≤ x.1) (fun x => s.length - x.1) (stS k s) (fun x => endS k s (scanS s (s.length - x.1) x.1 x.2)) (fun x hx => ?_) (0, []) ⟨Nat.zero_le _, Nat.le_refl _⟩
 obtain ⟨a, L⟩ := x
 obtain ⟨h1, h2⟩ := hx
 simp only at h1 h2 ⊢
 have hk := hr s a L.length (fun i => L.getD i tok0)
 by_cases ha : a < s.length
 ·obtain ⟨j, hj⟩ : ∃ j, s.length - a = j + 1 := ⟨s.length - a - 1, by omega⟩
  cases hb : bAt s a == 32 with
  | true =>
   rw [hb, treeS_blank ha (by omega)] at hk
   left
   refine ⟨(a + 1, L), ⟨by simp only; omega, by simp only; omega⟩, by simp only; omega, ?_, SEB.of_KP (e := .normal) (sp := spSx k) hmix hnum hp (.none _) hB hk rfl⟩
   simp only
   rw [hj, show s.length - (a + 1) = j by omega]
   simp only [scanS, decide_eq_true ha, hb, cond_true]
  | false =>
   rw [hb] at hk
   cases he : (tokK (s.drop a)).2.2 != 0 with
   | true =>
    rw [treeS_err ha (by omega) he] at hk
    right
    rw [hj]
    simp only [scanS, decide_eq_true ha, hb, he, cond_true, cond_false]
    exact ⟨by simp [endS], SEB.of_KP (e := .ret) (sp := spSx k) hmix hnum hp (.none _) hB hk rfl⟩
   | false =>
    rw [treeS_tok ha (by omega) (by omega) he] at hk
    have h0 : (tokK (s.drop a)).2.2 = 0 := by simpa using he
    obtain ⟨hl, hpos⟩ := tokK_le (s.drop a) (drop_ne ha)
    have hpos := hpos h0
    rw [List.length_drop] at hl
    left
    refine ⟨(a + (tokK (s.drop a)).2.1, L ++ [((tokK (s.drop a)).1, (s.drop a).take (tokK (s.drop a)).2.1, (a : Int))]), ⟨by simp only; omega, by simp only [List.length_append, List.length_singleton]; omega⟩, by simp only; omega, ?_, ?_⟩
    ·simp only
     rw [hj, scanS_fuel s j _ _ (by omega) |>.symm]
     simp only [scanS, decide_eq_true ha, hb, he, cond_true, cond_false]
    ·have h1 := SEB.of_KP (e := .normal) (sp := spSx k) hmix hnum hp (.none _) hB hk rfl
     have e : (L ++ [((tokK (s.drop a)).1, (s.drop a).take (tokK (s.drop a)).2.1, (a : Int))]).length = L.length + 1 := by simp
     unfold stS
     simp only
     rw [e]
     rcases hk50 with rfl | rfl
     all_goals exact h1.wk_out (Wk.addRow (b := 8) (f := rowT) (d := tok0) (L := L) (x := ((tokK (s.drop a)).1, (s.drop a).take (tokK (s.drop a)).2.1, (a : Int))) rowT_tag rfl rfl (fun h => by rw [hB] at h; omega))
 ·right
  rw [treeS_end _ (by omega)] at hk
  rw [show s.length - a = 0 by omega]
  exact ⟨by simp [scanS, endS], SEB.of_KP (e := .exit 0) (sp := spSx k) hmix hnum hp (.none _) hB hk rfl⟩
end Go.Proofs.Tryz
namespace Go.Proofs.Tryz
open Go.Ad
def scL (s : List UInt8) : List Tok := match scanS s s.length 0 [] with | .inr L => L | .inl _ => []
def scB (s : List UInt8) : Bool := match scanS s s.length 0 [] with | .inr _ => false | .inl _ => true
def scA (s : List UInt8) : Int := match scanS s s.length 0 [] with | .inr _ => 0 | .inl (a, _) => a
def scE (s : List UInt8) : Int := match scanS s s.length 0 [] with | .inr _ => 0 | .inl (_, e) => e
def scT (s : List UInt8) : List Tok := scL s ++ [(3, [], (s.length : Int))]
def hookS (k : Nat) : Blk := hookP (spSc k) 8 [8] fun
 | [.s s, .n n, .i a, .n n', .r _] => .br (decide (n = 0 ∧ n' = 0 ∧ a = 0 ∧ s.length ≤ 4096)) (.br (scB s) (.leaf (.ret, spSr k, lfRsn (scA s) (scE s))) (.leaf (.normal, spSe k, [.s s, .n (scL s).length, .n (scL s).length, .r (rowsT (scL s))]))) .fail
 | _ => .fail
noncomputable def pS18 : Prims := pT.addb 18 0 (hookS 50)
section
variable {A : Amb} (hT : Tab A) (hG : prog.globals.size ≤ A.G)
include hT hG
theorem hookS_ok {body : Code} {k : Nat} (hk50 : k = 50 ∨ k = 49)
  (hr : ∀ (s : List UInt8) (a n : Nat) (r : Nat → Tok), execK prog (runK prog pT 60) noBps body ((spSc k).rho (lfScn s a n (fun i => rowT (r i)))) ((spSc k).heap (lfScn s a n (fun i => rowT (r i)))) (nrmP (spSx k) 8 [8]) = treeS (bAt s a == 32) s a n r) :
  ∀ ρ B e' ρ' B' D, (hookS k ρ B).get = some (e', ρ', B', D) → AFr B B' D ∧ SEB prog A B (.block 0 (.loop body)) ⟨ρ, B, []⟩ e' ⟨ρ', B', D⟩ := by
 refine hookP_ok (by rfl) fun ls e sq l h => ?_
 split at h
 ·rename_i s n a n' r
  obtain ⟨hc, hv⟩ := Tr.br1 h
  clear h
  obtain ⟨rfl, rfl, rfl, hs⟩ := of_decide_eq_true hc
  have key : ∀ Bb : Heap, Bb.length = 8 → SEB prog A Bb (.loop body) ⟨(spSc k).rho [.s s, .n 0, .i 0, .n 0, .r r], (spSc k).heap [.s s, .n 0, .i 0, .n 0, .r r], [8]⟩ (endS k s (scanS s s.length 0 [])).1 (endS k s (scanS s s.length 0 [])).2 := fun Bb hB => by
   refine SEB.wk_in ?_ (loopS hT hG hk50 hr s hs hB)
   rcases hk50 with rfl | rfl
   all_goals exact Wk.obj (b := 8) (o := .vec 0 r 3 52) (o' := .vec 0 (rowsT []) 3 52) rfl (fun _ => by simp) (fun h => h) (fun h => h) fun ι hh l ho => OR.rows (fun i hi => by omega) ho
  cases hsc : scanS s s.length 0 [] with
  | inl x =>
   obtain ⟨a, e0⟩ := x
   have e1 : scB s = true := by simp [scB, hsc]
   have e2 : scA s = a := by simp [scA, hsc]
   have e3 : scE s = e0 := by simp [scE, hsc]
   rw [e1] at hv
   simp only [Tr.get, Option.some.injEq, Prod.mk.injEq] at hv
   obtain ⟨rfl, rfl, rfl⟩ := hv
   refine ⟨by rcases hk50 with rfl | rfl <;> exact ⟨.inr rfl, .inr rfl, .inr rfl, .inr rfl, .inr rfl, .inr rfl, .inr rfl, .inr rfl, .inl rfl, trivial⟩, fun Bb hB => SEB.block_other (id := 0) ?_ (by simp)⟩
   have := key Bb hB
   rw [hsc] at this
   rw [e2, e3]; exact this
  | inr L =>
   have e1 : scB s = false := by simp [scB, hsc]
   have e2 : scL s = L := by simp [scL, hsc]
   rw [e1] at hv
   simp only [Tr.get, Option.some.injEq, Prod.mk.injEq] at hv
   obtain ⟨rfl, rfl, rfl⟩ := hv
   refine ⟨by rcases hk50 with rfl | rfl <;> exact ⟨.inr rfl, .inr rfl, .inr rfl, .inr rfl, .inr rfl, .inr rfl, .inr rfl, .inr rfl, .inl rfl, trivial⟩, fun Bb hB => SEB.block_exit (id := 0) ?_⟩
   have := key Bb hB
   rw [hsc] at this
   rw [e2]; exact this
 ·cases h
theorem pS18_ok : PrimOK prog A pS18 :=
 (pT_ok hT hG).addb func18 (show f18.body = some code18 by kernel_rfl) (by kernel_rfl) (hookS_ok hT hG (.inl rfl) (body := body18) fun s a n r => by rw [round18, cls5]; simp [bI, bAt])
end
end Go.Proofs.Tryz
namespace Go.Proofs.Tryz
open Go.Ad
def scanR (s : List UInt8) : List Tok × Int × Int :=
 bif decide (s.length ≤ 4096) then (bif scB s then ([], scA s, scE s) else (scT s, 0, 0)) else ([], 0, 17)
def sqL : SP := ⟨[.list 8, .int .i64, .int .i64], dd8 ++ [.vec 3 52]⟩
def lfL (x : List Tok × Int × Int) : List Lf := [.n x.1.length, .i x.2.1, .i x.2.2, .n x.1.length, .r (rowsT x.1)]
def spTxt : SP := ⟨[.str], dd8⟩
def TSc : List Lf → Tr (SP × List Lf)
 | [.s s] => .leaf (sqL, lfL (scanR s))
 | _ => .fail
def treeR (s : List UInt8) : Option (List Lf) :=
 brK (decide ((s.length : Int) > 4096)) (some [.n 0, .i 0, .i 17, .n 0, .r (fun _ => [])]) (brK (decide (0 = 0 ∧ 0 = 0 ∧ (0 : Int) = 0 ∧ s.length ≤ 4096)) (brK (scB s) (some [.n 0, .i (scA s), .i (scE s), .n 0, .r (fun _ => [])])
  (brK (decide ((scL s).length + 1 < 2147483648 ∧ (scL s).length = (scL s).length)) (some [.n ((scL s).length + 1), .i 0, .i 0, .n ((scL s).length + 1), .r (addRow (scL s).length (rowsT (scL s)) [.int .i64 3, .str [], .sint .i64 s.length])]) none)) none)
theorem run18 (s : List UInt8) : (runK prog pS18 60).call 18 [.sstr s] (Bg 8) (finQ sqL 8 []) = treeR s := by kernel_rfl
theorem scanS_len (s : List UInt8) : ∀ (k a : Nat) (L L' : List Tok), a ≤ s.length → L.length ≤ a → scanS s k a L = .inr L' → L'.length ≤ s.length
 | 0, a, L, L', ha, hl, h => by cases h; omega
 | k + 1, a, L, L', ha, hl, h => by
  simp only [scanS] at h
  by_cases hlt : a < s.length
  ·rw [decide_eq_true hlt, cond_true] at h
   cases hb : bAt s a == 32 with
   | true => rw [hb, cond_true] at h; exact scanS_len s k (a + 1) L L' (by omega) (by omega) h
   | false =>
    rw [hb, cond_false] at h
    cases he : (tokK (s.drop a)).2.2 != 0 with
    | true => rw [he, cond_true] at h; cases h
    | false =>
     rw [he, cond_false] at h
     have h0 : (tokK (s.drop a)).2.2 = 0 := by simpa using he
     obtain ⟨q1, q2⟩ := tokK_le (s.drop a) (drop_ne hlt)
     have q2 := q2 h0
     rw [List.length_drop] at q1
     exact scanS_len s k _ _ L' (by omega) (by simp; omega) h
  ·rw [decide_eq_false hlt, cond_false] at h; cases h; omega
theorem scL_len (s : List UInt8) : (scL s).length ≤ s.length := by
 unfold scL
 cases h : scanS s s.length 0 [] with
 | inl x => simp
 | inr L => exact scanS_len s s.length 0 [] L (Nat.zero_le _) (Nat.le_refl _) h
theorem scan_wk {A : Amb} (s : List UInt8) : ∃ l0, treeR s = some l0 ∧ ∀ Bb : Heap, Bb.length = 8 → Wk A Bb ⟨sqL.rho l0, sqL.heap l0, []⟩ ⟨sqL.rho (lfL (scanR s)), sqL.heap (lfL (scanR s)), []⟩ := by
 have nil : ∀ (a e : Int) (Bb : Heap), Bb.length = 8 → Wk A Bb ⟨sqL.rho [.n 0, .i a, .i e, .n 0, .r (fun _ => [])], sqL.heap [.n 0, .i a, .i e, .n 0, .r (fun _ => [])], []⟩ ⟨sqL.rho (lfL ([], a, e)), sqL.heap (lfL ([], a, e)), []⟩ := fun a e Bb hB =>
  Wk.obj (b := 8) (o := .vec 0 (fun _ => []) 3 52) (o' := .vec 0 (rowsT []) 3 52) rfl (fun h => by rw [hB] at h; omega) (fun h => h) (fun h => h) fun ι hh l ho => OR.rows (fun i hi => by omega) ho
 unfold treeR scanR
 by_cases hs : s.length ≤ 4096
 ·rw [decide_eq_false (show ¬ (s.length : Int) > 4096 by omega), decide_eq_true (show 0 = 0 ∧ 0 = 0 ∧ (0 : Int) = 0 ∧ s.length ≤ 4096 from ⟨rfl, rfl, rfl, hs⟩), decide_eq_true hs]
  cases scB s with
  | true => exact ⟨_, rfl, nil _ _⟩
  | false =>
   have hl := scL_len s
   rw [decide_eq_true (show (scL s).length + 1 < 2147483648 ∧ (scL s).length = (scL s).length from ⟨by omega, rfl⟩)]
   refine ⟨_, rfl, fun Bb hB => ?_⟩
   have e : (scT s).length = (scL s).length + 1 := by simp [scT]
   simp only [cond_true, cond_false, lfL]
   rw [e]
   exact Wk.addRow (b := 8) (f := rowT) (d := tok0) (L := scL s) (x := (3, [], (s.length : Int))) rowT_tag rfl rfl (fun h => by rw [hB] at h; omega)
 ·rw [decide_eq_true (show (s.length : Int) > 4096 by omega), decide_eq_false hs]
  exact ⟨_, rfl, nil _ _⟩
end Go.Proofs.Tryz
namespace Go.Proofs.Tryz
open Go.Ad
end Go.Proofs.Tryz
namespace Go.Proofs.Tryz
open Go.Ad
section
variable {n i k : Nat} {ty : Nat} {t p : Tok} {r : Nat → List AV} {s : List UInt8} {ad : AV}
end
end Go.Proofs.Tryz
namespace Go.Proofs.Tryz
open Go.Ad
def tokOf : List AV → Tok
 | [a, b, c] => (((snum a).getD (.i64, 0)).2, (sstr? b).getD [], ((snum c).getD (.i64, 0)).2)
 | _ => tok0
def toksOf (n : Nat) (f : Nat → List AV) : List Tok := (List.range n).map fun i => tokOf (f i)
theorem toksOf_rows (L : List Tok) : toksOf L.length (rowsT L) = L := by
 unfold toksOf
 apply List.ext_getElem?
 intro i
 rw [List.getElem?_map]
 by_cases h : i < L.length
 ·rw [List.getElem?_range h, Option.map_some, List.getElem?_eq_getElem h]
  simp only [rowsL, rowT, tokOf, snum, sstr?, Option.getD_some]
  rw [List.getD_eq_getElem?_getD, List.getElem?_eq_getElem h]; rfl
 ·rw [List.getElem?_eq_none (by simp; omega), List.getElem?_eq_none (by omega)]; rfl
end Go.Proofs.Tryz
namespace Go.Proofs.Tryz
open Go.Ad
end Go.Proofs.Tryz
namespace Go.Proofs.Tryz
open Go.Ad
section
variable {ty n i : Nat} {t p : Tok} {f : Nat → List AV} {s : List UInt8}
end
end Go.Proofs.Tryz
namespace Go.Proofs.Tryz
open Go.Ad
theorem bAt_app {t r : List UInt8} {i : Nat} (h : i < t.length) : bAt (t ++ r) i = bAt t i := by
 unfold bAt
 rw [List.getD_eq_getElem?_getD, List.getElem?_append_left h, ← List.getD_eq_getElem?_getD]
theorem bAt_app2 {t r : List UInt8} : bAt (t ++ r) t.length = bAt r 0 := by
 unfold bAt
 rw [List.getD_eq_getElem?_getD, List.getElem?_append_right (Nat.le_refl _), Nat.sub_self, ← List.getD_eq_getElem?_getD]
theorem pCl_app {cs : List Int} {t r : List UInt8} {i : Nat} (h : i < t.length) : pCl cs (t ++ r) i = pCl cs t i := by unfold pCl; rw [bAt_app h]
theorem pCl_app2 {cs : List Int} {t r : List UInt8} : pCl cs (t ++ r) t.length = pCl cs r 0 := by unfold pCl; rw [bAt_app2]
theorem lenC_app {cs : List Int} {t r : List UInt8} (h : lenC cs t = t.length) (hr : r = [] ∨ pCl cs r 0 = false) : lenC cs (t ++ r) = t.length := by
 unfold lenC
 refine scanN_unique (Nat.zero_le _) (by simp) (fun j _ hj => ?_) (fun hl => ?_)
 ·rw [pCl_app hj]
  exact scanN_true (p := pCl cs t) (k := t.length) (n := 0) (m := j) (Nat.zero_le _) (by unfold lenC at h; omega)
 ·rcases hr with rfl | hr
  ·simp at hl
  ·rw [pCl_app2, hr]
theorem lenC_lt {cs : List Int} {t r : List UInt8} (h : lenC cs t < t.length) : lenC cs (t ++ r) = lenC cs t := by
 unfold lenC at *
 refine scanN_unique (Nat.zero_le _) (by simp; omega) (fun j _ hj => ?_) (fun hl => ?_)
 ·rw [pCl_app (by omega)]
  exact scanN_true (p := pCl cs t) (k := t.length) (n := 0) (m := j) (Nat.zero_le _) hj
 ·rw [pCl_app h]
  exact scanN_stop (p := pCl cs t) (k := t.length) (n := 0) (by omega)
theorem errW_inv {t : List UInt8} (h : errW t = 0) : wordN t = t.length ∧ 0 < t.length ∧ letB (bAt t 0) = true ∧ lenC [1, 2, 3] t = t.length := by
 unfold errW at h
 split at h
 ·cases h
 ·rename_i hn
  have h1 : wordN t ≠ 0 := fun e => hn (.inl e)
  have h2 : wordN t = t.length := by
   rcases Nat.decEq (wordN t) t.length with e | e
   ·exact absurd (.inr e) hn
   ·exact e
  refine ⟨h2, by omega, ?_⟩
  unfold wordN at h1 h2
  cases hc : letB (bAt t 0) && !t.isEmpty with
  | false => rw [hc] at h1; exact absurd rfl h1
  | true =>
   rw [hc] at h2
   simp only [Bool.and_eq_true] at hc
   exact ⟨hc.1, h2⟩
theorem errN_inv {t : List UInt8} (h : errN t = 0) : (numN t).1 = t.length ∧ 0 < t.length ∧ digB (bAt t 0) = true := by
 unfold errN at h
 split at h
 ·cases h
 ·rename_i hn
  have h1 : (numN t).1 ≠ 0 := fun e => hn (.inl e)
  have h2 : (numN t).1 = t.length := by
   rcases Nat.decEq (numN t).1 t.length with e | e
   ·exact absurd (.inr (.inl e)) hn
   ·exact e
  have hne : t.isEmpty = false := by
   cases t with
   | nil => simp at h2; exact absurd h2 h1
   | cons => rfl
  exact ⟨h2, by omega, (numN_pos hne).1 (by omega)⟩
theorem wordN_app {t r : List UInt8} (h : errW t = 0) (hr : r = [] ∨ pCl [1, 2, 3] r 0 = false) : wordN (t ++ r) = t.length := by
 obtain ⟨h1, h2, h3, h4⟩ := errW_inv h
 unfold wordN
 have he : (t ++ r).isEmpty = false := by cases t with | nil => simp at h2 | cons => rfl
 rw [bAt_app h2, h3, he, lenC_app h4 hr]; rfl
theorem numN_app {t r : List UInt8} (h : errN t = 0) (hr : r = [] ∨ (digB (bAt r 0) = false ∧ bAt r 0 ≠ 46)) : (numN (t ++ r)).1 = t.length := by
 obtain ⟨h1, h2, h3⟩ := errN_inv h
 rcases hr with rfl | ⟨r1, r2⟩
 ·rw [List.append_nil]; exact h1
 have hp : pCl [2] r 0 = false := by simp [pCl, cls2, r1]
 unfold numN at h1
 cases hc : (decide (0 < lenC [2] t) && (decide (lenC [2] t + 1 < t.length) && (bAt t (lenC [2] t) == 46 && decide (0 < lenC [2] (t.drop (lenC [2] t + 1)))))) with
 | true =>
  rw [hc, cond_true] at h1
  simp only at h1
  simp only [Bool.and_eq_true, decide_eq_true_eq] at hc
  obtain ⟨c1, c2, c3, c4⟩ := hc
  have e1 : lenC [2] (t ++ r) = lenC [2] t := lenC_lt (by omega)
  have e2 : (t ++ r).drop (lenC [2] t + 1) = t.drop (lenC [2] t + 1) ++ r := List.drop_append_of_le_length (by omega)
  have e3 : lenC [2] (t.drop (lenC [2] t + 1) ++ r) = (t.drop (lenC [2] t + 1)).length := lenC_app (by rw [List.length_drop]; omega) (.inr hp)
  have e4 : lenC [2] (t.drop (lenC [2] t + 1)) = (t.drop (lenC [2] t + 1)).length := by rw [List.length_drop]; omega
  unfold numN
  rw [e1, e2, e3, ← e4, bAt_app (by omega), c3, decide_eq_true c1, decide_eq_true (show lenC [2] t + 1 < (t ++ r).length by simp; omega), decide_eq_true c4]
  exact h1
 | false =>
  rw [hc, cond_false] at h1
  simp only at h1
  have e1 : lenC [2] (t ++ r) = t.length := lenC_app h1 (.inr hp)
  unfold numN
  rw [e1, bAt_app2, show (bAt r 0 == 46) = false by simpa using r2]
  simp
def Gd (t : Tok) : Prop := (t.1 = 0 ∧ errW t.2.1 = 0) ∨ (t.1 = 1 ∧ errN t.2.1 = 0) ∨ (t.1 = 2 ∧ t.2.1.length = 1 ∧ markB (bAt t.2.1 0) = true)
def extB (k c : Int) : Bool := (k == 0 && (letB c || digB c || c == 95)) || (k == 1 && (digB c || c == 46))
theorem mark_plain2 : ((List.range 256).all fun n => !markB (n : Int) || (!letB (n : Int) && !digB (n : Int) && !((n : Int) == 95) && !((n : Int) == 32) && !((n : Int) == 46))) = true := by kernel_rfl
theorem mark_ext {c : Int} (h0 : 0 ≤ c) (h1 : c < 256) (h : markB c = true) : letB c = false ∧ digB c = false ∧ (c == 95) = false ∧ (c == 32) = false ∧ (c == 46) = false := by
 obtain ⟨n, rfl⟩ : ∃ n : Nat, c = n := ⟨c.toNat, by omega⟩
 have hp := List.all_eq_true.1 mark_plain2 n (List.mem_range.2 (by omega))
 rw [h] at hp
 simp only [Bool.not_true, Bool.false_or, Bool.and_eq_true, Bool.not_eq_true'] at hp
 exact ⟨hp.1.1.1.1, hp.1.1.1.2, hp.1.1.2, hp.1.2, hp.2⟩
theorem let_ne {c : Int} (h : letB c = true) : digB c = false ∧ (c == 32) = false ∧ (c == 46) = false := by
 have := of_decide_eq_true h
 exact ⟨decide_eq_false (by omega), beq_eq_false_iff_ne.2 (by omega), beq_eq_false_iff_ne.2 (by omega)⟩
theorem dig_ne {c : Int} (h : digB c = true) : letB c = false ∧ (c == 32) = false := by
 have := of_decide_eq_true h
 exact ⟨decide_eq_false (by omega), beq_eq_false_iff_ne.2 (by omega)⟩
theorem Gd.pos {t : Tok} (h : Gd t) : 0 < t.2.1.length ∧ (bAt t.2.1 0 == 32) = false := by
 obtain ⟨b0, b1⟩ := bAt_range t.2.1 0
 rcases h with ⟨_, h⟩ | ⟨_, h⟩ | ⟨_, h1, h2⟩
 ·obtain ⟨_, q1, q2, _⟩ := errW_inv h
  exact ⟨q1, (let_ne q2).2.1⟩
 ·obtain ⟨_, q1, q2⟩ := errN_inv h
  exact ⟨q1, (dig_ne q2).2⟩
 ·exact ⟨by omega, (mark_ext b0 b1 h2).2.2.2.1⟩
theorem tok_app {t : Tok} {r : List UInt8} (h : Gd t) (hr : r = [] ∨ extB t.1 (bAt r 0) = false) : tokK (t.2.1 ++ r) = (t.1, t.2.1.length, 0) := by
 obtain ⟨k, t, at0⟩ := t
 have hp := h.pos.1
 unfold tokK
 simp only at hp ⊢
 rw [bAt_app hp]
 obtain ⟨b0, b1⟩ := bAt_range t 0
 rcases h with ⟨hk, h⟩ | ⟨hk, h⟩ | ⟨hk, h1, h2⟩
 ·simp only at hk h
  subst hk
  obtain ⟨_, q1, q2, _⟩ := errW_inv h
  have e : wordN (t ++ r) = t.length := wordN_app h (by
   rcases hr with rfl | hr
   ·exact .inl rfl
   ·refine .inr ?_
    simp only [extB, beq_self_eq_true, Bool.true_and, Bool.or_eq_false_iff] at hr
    simp [pCl, cls1, cls2, cls3, hr.1.1.1, hr.1.1.2, hr.1.2])
  rw [q2, cond_true, e, List.take_left, h]
 ·simp only at hk h
  subst hk
  obtain ⟨_, q1, q2⟩ := errN_inv h
  have e : (numN (t ++ r)).1 = t.length := numN_app h (by
   rcases hr with rfl | hr
   ·exact .inl rfl
   ·refine .inr ?_
    simp [extB] at hr
    exact hr)
  rw [(dig_ne q2).1, cond_false, q2, cond_true, e, List.take_left, h]
 ·simp only at hk h1 h2
  subst hk
  obtain ⟨q1, q2, _⟩ := mark_ext b0 b1 h2
  rw [q1, q2, h2, h1]; rfl
end Go.Proofs.Tryz
namespace Go.Proofs.Tryz
open Go.Ad
theorem scan_tok {S : List UInt8} {a : Nat} {t : Tok} {r : List UInt8} (h : Gd t) (hS : S.drop a = t.2.1 ++ r) (hr : r = [] ∨ extB t.1 (bAt r 0) = false) (Acc : List Tok) :
  scanS S (S.length - a) a Acc = scanS S (S.length - (a + t.2.1.length)) (a + t.2.1.length) (Acc ++ [(t.1, t.2.1, (a : Int))]) := by
 have hp := h.pos
 have hl : S.length - a = t.2.1.length + r.length := by rw [← List.length_drop, hS, List.length_append]
 obtain ⟨k, hk⟩ : ∃ k, S.length - a = k + 1 := ⟨S.length - a - 1, by omega⟩
 have hb : bAt S a = bAt t.2.1 0 := by rw [← Nat.add_zero a, ← bAt_drop, hS, bAt_app hp.1]
 rw [hk]
 simp only [scanS, decide_eq_true (show a < S.length by omega), cond_true, hb, hp.2, cond_false]
 rw [hS, tok_app h hr]
 simp only [List.take_left]
 rw [show ((0 : Int) != 0) = false by decide, cond_false, scanS_fuel S k _ _ (by omega)]
end Go.Proofs.Tryz
