/- LexerNormal: the law. -/
import Derived.Test.YtfjgehlpjppggaaGreatDoorNf

namespace Go.Proofs.Tryz
open Go.Ad

noncomputable def inner8 (n e : Int) (x : List UInt8) (L M : List Tok) (z : List UInt8) (h1 h2 h3 : Int) (len : Int) : Option Unit :=
  brK (e != 0) (some ()) (brK (W (W (h1 + h2) + h3) != 0) none (brK (!(z == x)) none (brK ((M.length : Int) != (L.length : Int)) none (brK (decide ((x.length : Int) > len)) none
    (brK (propB (cond8 L.length M.length L.length n L.length M.length (rowsT L) (rowsT M) (toksOf L.length (rowsT L)) (toksOf L.length (rowsT M)))) (some ()) none)))))
noncomputable abbrev inN (s : List UInt8) : Option Unit := inner8 0 (scanR s).2.2 (normR s).1 (scanR s).1 (scanR (normR s).1).1 (normR (normR s).1).1 (normR s).2.2 (scanR (normR s).1).2.2 (normR (normR s).1).2.2 s.length
theorem normTree (s : List UInt8) : (runK prog pL8 60).call 8 [.sstr s] (Bg 8) goodK =
    brK (decide ((s.length : Int) ≤ 500)) (inN s) (brK (decide ((s.length : Int) > 4096)) (brK (!decide ((s.length : Int) ≤ 8192)) (some ()) (inN s)) (some ())) := by kernel_rfl

theorem inN_ok (s : List UInt8) : inN s = some () := by
  unfold inN inner8
  by_cases hs : s.length ≤ 4096
  · cases hb : scB s with
    | true =>
      have h2 : (scanR s).2.2 = scE s := by simp [scanR, hs, hb]
      rw [h2]
      have := scE_ne s hb
      rw [show (scE s != 0) = true by simpa using this]; rfl
    | false =>
      obtain ⟨h1, h2, h3, h4, h5, h6, h7⟩ := norm_facts s hs hb
      rw [h2, h1]
      simp only
      rw [h6, h4]
      simp only
      have hl : (scT (joinT none (scL s))).length = (scT s).length := by simpa using (congrArg List.length h5).symm
      have e1 : toksOf (scT s).length (rowsT (scT s)) = scT s := toksOf_rows _
      have e2 : toksOf (scT s).length (rowsT (scT (joinT none (scL s)))) = scT (joinT none (scL s)) := by rw [← hl]; exact toksOf_rows _
      rw [e1, e2, hl, propB_true (p := cond8 _ _ _ _ _ _ _ _ _ _) ⟨rfl, rfl, rfl, rfl, rfl, rfl, rfl, h5, h7⟩, decide_eq_false (show ¬ ((joinT none (scL s)).length : Int) > s.length by omega)]
      simp only [bne_self_eq_false, beq_self_eq_true, Bool.not_true]
      rw [show (W (W (0 + 0) + 0) != 0) = false by decide]; rfl
  · have h1 : scanR s = ([], 0, 17) := by simp [scanR, hs]
    rw [h1]; rfl

theorem lexerNormal (b : ByteArray) (W : World) (hG : prog.globals.size ≤ W.heap.size) (hT : Tab (ambOf W)) :
    Calls prog 8 #[.string b] W fun e W' => e = .returned (.bool true) ∧ RowKit.Below W.heap.size W W' := by
  refine law_text b W hG (pL8_ok hT hG) ((normTree _).trans ?_)
  rw [inN_ok]
  generalize b.data.toList = s
  cases decide ((s.length : Int) ≤ 500) <;> cases decide ((s.length : Int) > 4096) <;> cases decide ((s.length : Int) ≤ 8192) <;> rfl
#print axioms lexerNormal
end Go.Proofs.Tryz
