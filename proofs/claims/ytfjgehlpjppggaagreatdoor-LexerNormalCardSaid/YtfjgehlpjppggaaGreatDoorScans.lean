/- LexerScans: Scan and Normal return the results, or the offsets and the errors, of the reference. -/
import Derived.Test.YtfjgehlpjppggaaGreatDoorRef
import Derived.Test.YtfjgehlpjppggaaGreatDoorOpen

namespace Go.Proofs.Tryz
open Go.Ad

theorem scanS_szs (s : List UInt8) : ∀ (k a : Nat) (L L' : List Tok), (∀ t, t ∈ L → t.2.1.length ≤ s.length) → scanS s k a L = .inr L' → ∀ t, t ∈ L' → t.2.1.length ≤ s.length
  | 0, a, L, L', hl, h => by cases h; exact hl
  | k + 1, a, L, L', hl, h => by
    simp only [scanS] at h
    by_cases hlt : a < s.length
    · rw [decide_eq_true hlt, cond_true] at h
      cases hb : bAt s a == 32 with
      | true => rw [hb, cond_true] at h; exact scanS_szs s k (a + 1) L L' hl h
      | false =>
        rw [hb, cond_false] at h
        cases he : (tokK (s.drop a)).2.2 != 0 with
        | true => rw [he, cond_true] at h; cases h
        | false =>
          rw [he, cond_false] at h
          refine scanS_szs s k _ _ L' (fun t ht => ?_) h
          rcases List.mem_append.mp ht with ht | ht
          · exact hl t ht
          · rw [List.mem_singleton.mp ht]
            simp only [List.length_take, List.length_drop]; omega
    · rw [decide_eq_false hlt, cond_false] at h; cases h; exact hl

theorem scanR_szs (s : List UInt8) : (∀ t, t ∈ (scanR s).1 → szOK t.2.1 = true) ∧ (scanR s).1.length ≤ 4097 := by
  unfold scanR
  by_cases hs : s.length ≤ 4096
  · rw [decide_eq_true hs, cond_true]
    cases hb : scB s with
    | true => exact ⟨fun t h => (by cases h), by simp⟩
    | false =>
      have hl := scL_len s
      refine ⟨fun t h => ?_, by simp [scT]; omega⟩
      simp only [cond_false, scT] at h
      have : t.2.1.length ≤ s.length := by
        rcases List.mem_append.mp h with h | h
        · unfold scL at h
          cases hsc : scanS s s.length 0 [] with
          | inl x => rw [hsc] at h; cases h
          | inr L => rw [hsc] at h; exact scanS_szs s s.length 0 [] L (fun t h => by cases h) hsc t h
        · rw [List.mem_singleton.mp h]; simp
      exact decide_eq_true (by omega)
  · rw [decide_eq_false hs]; exact ⟨fun t h => (by cases h), by simp⟩

noncomputable def innerS (n : Nat) (f : Nat → List AV) (L : List Tok) (a e : Int) : Option Unit :=
  brK (propB (n = n ∧ n = n ∧ f = rowsT L ∧ f = rowsT L ∧ n ≤ 4097)) (brK (!decide (L = L)) none (brK (a != a) none (brK (e != e) none
    (brK (e != 0)
      (brK (e != 0) (brK (a == a) (brK (e == e) (some ()) none) none)
        (brK (propB (n = n ∧ isToks n f)) (brK ([] == (joinR L).1) (brK (a == 0) (brK (e == (joinR L).2) (some ()) none) none) none) none))
      (brK (propB (n = n ∧ isToks n f))
        (brK (e != 0) (brK ((joinR L).1 == []) (brK (0 == a) (brK ((joinR L).2 == e) (some ()) none) none) none)
          (brK (propB (n = n ∧ isToks n f)) (brK ((joinR L).1 == (joinR L).1) (brK ((joinR L).2 == (joinR L).2) (some ()) none) none) none))
        none))))) none

theorem scansTree (s : List UInt8) : (runK prog pR 60).call 4 [.sstr s] (Bg 8) goodK =
    brK (decide ((s.length : Int) ≤ 500)) (innerS (scanR s).1.length (rowsT (scanR s).1) (toksOf (scanR s).1.length (rowsT (scanR s).1)) (scanR s).2.1 (scanR s).2.2)
      (brK (decide ((s.length : Int) > 4096)) (brK (!decide ((s.length : Int) ≤ 8192)) (some ()) (innerS (scanR s).1.length (rowsT (scanR s).1) (toksOf (scanR s).1.length (rowsT (scanR s).1)) (scanR s).2.1 (scanR s).2.2)) (some ())) := by kernel_rfl

theorem innerS_ok (s : List UInt8) : innerS (scanR s).1.length (rowsT (scanR s).1) (toksOf (scanR s).1.length (rowsT (scanR s).1)) (scanR s).2.1 (scanR s).2.2 = some () := by
  obtain ⟨h1, h2⟩ := scanR_szs s
  have h3 := isToks_rows h1
  unfold innerS
  rw [propB_true (show _ ∧ _ from ⟨rfl, rfl, h3.1, h3.1, h2⟩), propB_true (show _ ∧ _ from ⟨rfl, h3⟩)]
  simp only [decide_true, bne_self_eq_false, beq_self_eq_true, Bool.not_true]
  cases (scanR s).2.2 != 0 <;> rfl

theorem lexerScans (b : ByteArray) (W : World) (hG : prog.globals.size ≤ W.heap.size) (hT : Tab (ambOf W)) :
    Calls prog 4 #[.string b] W fun e W' => e = .returned (.bool true) ∧ RowKit.Below W.heap.size W W' := by
  refine law_text b W hG (pR_ok hT hG) ((scansTree _).trans ?_)
  rw [innerS_ok]
  generalize b.data.toList = s
  cases decide ((s.length : Int) ≤ 500) <;> cases decide ((s.length : Int) > 4096) <;> cases decide ((s.length : Int) ≤ 8192) <;> rfl
#print axioms lexerScans
end Go.Proofs.Tryz
