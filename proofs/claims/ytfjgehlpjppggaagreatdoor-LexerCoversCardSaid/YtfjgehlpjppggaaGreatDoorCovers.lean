/- LexerCovers: tokens stand in the text at their offsets, in order, with nothing but blanks between them, and the end is at the end. -/
import Derived.Test.YtfjgehlpjppggaaGreatDoorCov

namespace Go.Proofs.Tryz
open Go.Ad

noncomputable def hook7 : Blk := hookP spC 9 [] fun
  | [.s s, .n n, .i a, .n n', .i m, .i i, .n n'', .r r] => .br (propB (scB s = false ∧ s.length ≤ 4096 ∧ n = (scT s).length ∧ a = 0 ∧ n' = n ∧ m = n ∧ i = 0 ∧ n'' = n ∧ r = rowsT (scT s))) (.leaf (.normal, spC, lfC s n s.length n r)) .fail
  | _ => .fail
noncomputable def pC7 : Prims := pC.addb 7 0 hook7

section
variable {A : Amb} (hT : Tab A) (hG : prog.globals.size ≤ A.G)
include hT hG

theorem pC_ok : PrimOK prog A pC := by
  exact withAwake_ok hT hG ((pS_ok hT hG).put func31 (by kernel_rfl) ((lib2_ok hT).fn 31 _ rfl).2)

theorem loop7 (s : List UInt8) (hb : scB s = false) (hs : s.length ≤ 4096) {Bb : Heap} (hB : Bb.length = 9) :
    SEB prog A Bb (.loop body7) ⟨spC.rho (lfC s (scT s).length 0 0 (rowsT (scT s))), spC.heap (lfC s (scT s).length 0 0 (rowsT (scT s))), []⟩ (.exit 0)
      ⟨spC.rho (lfC s (scT s).length s.length (scT s).length (rowsT (scT s))), spC.heap (lfC s (scT s).length s.length (scT s).length (rowsT (scT s))), []⟩ := by
  have hp := pC_ok hT hG
  have hlen : (scT s).length = (scL s).length + 1 := by simp [scT]
  have hll := scL_len s
  generalize hn : (scT s).length = n at *
  refine SEB.while (A := A) (B0 := Bb) (c := body7) (fun x : Nat × Nat => (x.1 ≤ (scL s).length ∧ Cov s x.2 ((scL s).drop x.1)) ∨ (x.1 = n ∧ x.2 = s.length)) (fun x => n - x.1)
    (fun x => ⟨spC.rho (lfC s n x.2 x.1 (rowsT (scT s))), spC.heap (lfC s n x.2 x.1 (rowsT (scT s))), []⟩)
    (fun _ => (.exit 0, ⟨spC.rho (lfC s n s.length n (rowsT (scT s))), spC.heap (lfC s n s.length n (rowsT (scT s))), []⟩)) (fun x hx => ?_) (0, 0) (.inl ⟨Nat.zero_le _, by simpa using cov_scL s hb⟩)
  obtain ⟨i, a⟩ := x
  simp only at hx ⊢
  have hk := round7 s n a i (fun i => (scT s).getD i tok0)
  rw [Int.toNat_natCast, Nat.zero_add] at hk
  rcases hx with ⟨hi, hc⟩ | ⟨rfl, rfl⟩
  · left
    by_cases hlt : i < (scL s).length
    · obtain ⟨t, M, hd⟩ : ∃ t M, (scL s).drop i = t :: M := ⟨(scL s)[i], (scL s).drop (i + 1), List.drop_eq_getElem_cons hlt⟩
      rw [hd] at hc
      obtain ⟨q, h1, h2, h3, h4, h5, h6, h7, h8⟩ := hc
      have ht : (scT s).getD i tok0 = t := by
        have : (scL s)[i]? = some t := by
          have h0 : ((scL s).drop i)[0]? = some t := by rw [hd]; rfl
          rwa [List.getElem?_drop, Nat.add_zero] at h0
        rw [List.getD_eq_getElem?_getD, scT, List.getElem?_append_left hlt, this]; rfl
      have hM : (scL s).drop (i + 1) = M := by
        have : ((scL s).drop i).drop 1 = M := by rw [hd]; rfl
        rwa [List.drop_drop] at this
      rw [ht, treeC_next (by omega) (by omega) (by omega) h1 h2 h3 h4 h5 (by rw [decide_eq_false (by omega), beq_eq_false_iff_ne]; exact h6) (by rw [decide_eq_false (by omega), beq_eq_false_iff_ne]; omega)] at hk
      refine ⟨(i + 1, q + t.2.1.length), .inl ⟨by simp only; omega, by simp only; rw [hM]; exact h8⟩, by simp only; omega, trivial, SEB.of_KP (e := .normal) (sp := spCx) hmix hnum hp (.none _) hB hk rfl⟩
    · have e : i = (scL s).length := by omega
      subst e
      rw [List.drop_length] at hc
      obtain ⟨h1, h2⟩ := hc
      have ht : (scT s).getD (scL s).length tok0 = (3, [], (s.length : Int)) := by
        rw [List.getD_eq_getElem?_getD, scT, List.getElem?_append_right (Nat.le_refl _)]; simp
      rw [ht, treeC_next (q := s.length) (by omega) (by omega) (by omega) rfl h1 (by simp) h2 (by simp) (by rw [decide_eq_true (by omega)]; rfl) (by rw [decide_eq_true (by omega)]; rfl)] at hk
      refine ⟨((scL s).length + 1, s.length), .inr ⟨by simp only; omega, rfl⟩, by simp only; omega, trivial, ?_⟩
      exact SEB.of_KP (e := .normal) (sp := spCx) hmix hnum hp (.none _) hB hk rfl
  · right
    have hk' := hk.trans treeC_end
    exact ⟨by simp, SEB.of_KP (e := .exit 0) (sp := spCx) hmix hnum hp (.none _) hB hk' rfl⟩

theorem pC7_ok : PrimOK prog A pC7 := by
  refine (pC_ok hT hG).addb func7 (show f7.body = some code7 by kernel_rfl) (body := .loop body7) (by kernel_rfl) (hookP_ok (by rfl) fun ls e sq l h => ?_)
  split at h
  · rename_i s n a n' m i n'' r
    obtain ⟨hc, hv⟩ := Tr.br1 h
    cases hv
    obtain ⟨hb, hs, h1, h2, h3, h4, h5, h6, h7⟩ := propB_eq hc
    subst h1 h2 h3 h4 h5 h6 h7
    exact ⟨⟨.inr rfl, .inr rfl, .inr rfl, .inr rfl, .inr rfl, .inr rfl, .inr rfl, .inr rfl, .inr rfl, trivial⟩, fun Bb hB => SEB.block_exit (id := 0) (loop7 hT hG s hb hs hB)⟩
  · cases h
end
end Go.Proofs.Tryz
