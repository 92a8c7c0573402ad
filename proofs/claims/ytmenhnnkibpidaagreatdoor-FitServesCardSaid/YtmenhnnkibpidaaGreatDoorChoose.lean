/- The choice of a fit, by the program and by the reference: the same best fit; what it is. -/
import Derived.Test.YtmenhnnkibpidaaGreatDoorBest2

namespace Go.Proofs.Tryz
open Go.Ad

theorem foldB_step {n a b h l g : Int} {L : List (Int × Int × Int)} {s : BS} : foldB n a b (step54 n h l g L) s = stepB n a b h l g (foldB n a b L s) := by
  simp only [step54]
  split
  · simp [foldB]
  · rename_i ho
    have : okF n 4 h l g = false := by simpa using ho
    simp [stepB, this]
theorem foldB_run4 {n a b h l : Int} : ∀ (k : Nat) (g : Int) (L : List (Int × Int × Int)) (s : BS), foldB n a b (run4 n h l k g L) s = bst4 n a b h l k g (foldB n a b L s)
  | 0, _, _, _ => rfl
  | k + 1, g, L, s => by simp only [run4, bst4]; rw [foldB_run4 k, foldB_step]
theorem foldB_run2 {n a b h : Int} : ∀ (k : Nat) (l : Int) (L : List (Int × Int × Int)) (s : BS), foldB n a b (run2 n h k l L) s = bst2 n a b h k l (foldB n a b L s)
  | 0, _, _, _ => rfl
  | k + 1, l, L, s => by simp only [run2, bst2]; rw [foldB_run2 k, foldB_run4]
theorem foldB_run0 {n a b : Int} : ∀ (k : Nat) (h : Int) (L : List (Int × Int × Int)) (s : BS), foldB n a b (run0 n k h L) s = bst0 n a b k h (foldB n a b L s)
  | 0, _, _, _ => rfl
  | k + 1, h, L, s => by simp only [run0, bst0]; rw [foldB_run0 k, foldB_run2]
theorem best_eq (n a b : Int) : bestR n a b = bestF n a b := foldB_run0 8 5 [] none4

/-- A fit of the basic hole that is right and has the wanted clearance. -/
def Good (n a b : Int) (x : Int × Int × Int) : Prop := (5 ≤ x.1 ∧ x.1 ≤ 12) ∧ (0 ≤ x.2.1 ∧ x.2.1 ≤ 9) ∧ (5 ≤ x.2.2 ∧ x.2.2 ≤ 12) ∧ okF n 4 x.1 x.2.1 x.2.2 = true ∧ a ≤ loC n 4 x.1 x.2.1 x.2.2 ∧ hiC n 4 x.1 x.2.1 x.2.2 ≤ b

/-- What a best fit is, among those that were looked at. -/
def Best (n a b : Int) (P : Int × Int × Int → Prop) (s : BS) : Prop := (s = none4 ∨ (Good n a b s.2 ∧ s.1 = wid n s.2 ∧ 0 ≤ s.1)) ∧ ∀ x, P x → Good n a b x → wid n x ≤ s.1

theorem Best.step {n a b h l g : Int} {P : Int × Int × Int → Prop} {s : BS} (hb : Best n a b P s) (hh : 5 ≤ h ∧ h ≤ 12) (hl : 0 ≤ l ∧ l ≤ 9) (hg : 5 ≤ g ∧ g ≤ 12) : Best n a b (fun x => P x ∨ x = (h, l, g)) (stepB n a b h l g s) := by
  obtain ⟨h1, h2⟩ := hb
  have hs : -1 ≤ s.1 := by
    rcases h1 with rfl | ⟨_, _, h⟩
    · decide
    · omega
  simp only [stepB]
  split
  · rename_i hc
    simp only [Bool.and_eq_true, decide_eq_true_eq] at hc
    obtain ⟨c1, c2, c3, c4⟩ := hc
    refine ⟨.inr ⟨⟨hh, hl, hg, c1, c2, c3⟩, rfl, ?_⟩, fun x hx hgx => ?_⟩
    · dsimp only; omega
    · rcases hx with hx | rfl
      · have := h2 x hx hgx
        dsimp only; omega
      · exact Int.le_refl _
  · rename_i hc
    refine ⟨h1, fun x hx hgx => ?_⟩
    rcases hx with hx | rfl
    · exact h2 x hx hgx
    · obtain ⟨_, _, _, g1, g2, g3⟩ := hgx
      simp only [Bool.and_eq_true, decide_eq_true_eq] at hc
      refine Int.not_lt.1 fun h => hc ⟨g1, g2, g3, h⟩

theorem Best.mono {n a b : Int} {P Q : Int × Int × Int → Prop} {s : BS} (hb : Best n a b P s) (h : ∀ x, Q x → P x) : Best n a b Q s := ⟨hb.1, fun x hx => hb.2 x (h x hx)⟩

theorem best4 {n a b h l : Int} (hh : 5 ≤ h ∧ h ≤ 12) (hl : 0 ≤ l ∧ l ≤ 9) : ∀ (k : Nat) (g : Int) (s : BS) (P : Int × Int × Int → Prop), 5 ≤ g → g + k ≤ 13 → Best n a b P s → Best n a b (fun x => P x ∨ (x.1 = h ∧ x.2.1 = l ∧ g ≤ x.2.2 ∧ x.2.2 < g + k)) (bst4 n a b h l k g s)
  | 0, g, s, P, _, _, hb => hb.mono fun x hx => by
    rcases hx with hx | hx
    · exact hx
    · omega
  | k + 1, g, s, P, h1, h2, hb => (best4 hh hl k (g + 1) _ _ (by omega) (by omega) (hb.step hh hl (by omega))).mono fun x hx => by
    obtain ⟨x1, x2, x3⟩ := x
    simp only [Prod.mk.injEq] at hx ⊢
    by_cases e : x3 = g
    · rcases hx with hx | hx
      · exact .inl (.inl hx)
      · exact .inl (.inr ⟨hx.1, hx.2.1, e⟩)
    · rcases hx with hx | hx
      · exact .inl (.inl hx)
      · exact .inr ⟨hx.1, hx.2.1, by omega, by omega⟩
theorem best2 {n a b h : Int} (hh : 5 ≤ h ∧ h ≤ 12) : ∀ (k : Nat) (l : Int) (s : BS) (P : Int × Int × Int → Prop), 0 ≤ l → l + k ≤ 10 → Best n a b P s → Best n a b (fun x => P x ∨ (x.1 = h ∧ (l ≤ x.2.1 ∧ x.2.1 < l + k) ∧ 5 ≤ x.2.2 ∧ x.2.2 ≤ 12)) (bst2 n a b h k l s)
  | 0, l, s, P, _, _, hb => hb.mono fun x hx => by
    rcases hx with hx | hx
    · exact hx
    · omega
  | k + 1, l, s, P, h1, h2, hb => (best2 hh k (l + 1) _ _ (by omega) (by omega) (best4 hh (l := l) (by omega) 8 5 s P (by omega) (by omega) hb)).mono fun x hx => by
    rcases hx with hx | hx
    · exact .inl (.inl hx)
    · by_cases e : x.2.1 = l
      · exact .inl (.inr ⟨hx.1, e, by omega, by omega⟩)
      · exact .inr ⟨hx.1, by omega, hx.2.2⟩
theorem best0 {n a b : Int} : ∀ (k : Nat) (h : Int) (s : BS) (P : Int × Int × Int → Prop), 5 ≤ h → h + k ≤ 13 → Best n a b P s → Best n a b (fun x => P x ∨ ((h ≤ x.1 ∧ x.1 < h + k) ∧ (0 ≤ x.2.1 ∧ x.2.1 ≤ 9) ∧ 5 ≤ x.2.2 ∧ x.2.2 ≤ 12)) (bst0 n a b k h s)
  | 0, h, s, P, _, _, hb => hb.mono fun x hx => by
    rcases hx with hx | hx
    · exact hx
    · omega
  | k + 1, h, s, P, h1, h2, hb => (best0 k (h + 1) _ _ (by omega) (by omega) (best2 (h := h) (by omega) 10 0 s P (by omega) (by omega) hb)).mono fun x hx => by
    rcases hx with hx | hx
    · exact .inl (.inl hx)
    · by_cases e : x.1 = h
      · exact .inl (.inr ⟨e, by omega, hx.2.2⟩)
      · exact .inr ⟨by omega, hx.2⟩

/-- The best fit is right and has the wanted clearance, and none that is right and has it is wider. -/
theorem bestF_spec (n a b : Int) : (bestF n a b = none4 ∨ (Good n a b (bestF n a b).2 ∧ (bestF n a b).1 = wid n (bestF n a b).2 ∧ 0 ≤ (bestF n a b).1)) ∧ ∀ x, Good n a b x → wid n x ≤ (bestF n a b).1 := by
  have h0 : Best n a b (fun _ => False) none4 := ⟨.inl rfl, fun _ h => h.elim⟩
  have h := best0 8 5 none4 _ (by omega) (by omega) h0
  exact ⟨h.1, fun x hx => h.2 x (.inr ⟨⟨hx.1.1, by have := hx.1.2; omega⟩, hx.2.1, hx.2.2.1⟩) hx⟩

def inR (a : Int) : Bool := decide (-100000 ≤ a ∧ a ≤ 100000)
def fitV (n : Int) (s : BS) : AV := .agg [.rng .i64 n 1 100000, .bool true, .int .i64 4, .rng .i64 s.2.1 5 12, .bool false, .rng .i64 s.2.2.1 0 9, .rng .i64 s.2.2.2 5 12]
def zeroV : AV := .agg zero7
def sCho : List AV → Tr AV
  | [x, .agg [y, z]] => match snum x, snum y, snum z with
    | some (.i64, n), some (.i64, a), some (.i64, b) => .br (in1 n && (inR a && inR b)) (.br (decide (a > b)) (.leaf (.tuple [zeroV, .int .i64 9])) (.br (decide ((bestF n a b).1 < 0)) (.leaf (.tuple [zeroV, .int .i64 6])) (.leaf (.tuple [fitV n (bestF n a b), .int .i64 0])))) .fail
    | _, _, _ => .fail
  | _ => .fail

theorem run29 (n a b : Int) : (runK prog (p29 n a b) 60).call 29 [.rng .i64 n 1 100000, .agg [.rng .i64 a (-100000) 100000, .rng .i64 b (-100000) 100000]] (Bg 9) finV =
    brK (decide (a > b)) (some (.tuple [zeroV, .int .i64 9])) (brK (propB (rho29 = rho29 ∧ heap29 n a b (.int .i64 (-1)) zero7 = heap29 n a b (.int .i64 (-1)) zero7))
      (brK (decide ((bestF n a b).1 < 0)) (some (.tuple [zeroV, .int .i64 6])) (some (.tuple [.agg (bestC n (bestF n a b)), .int .i64 0]))) none) := by kernel_rfl
theorem run30 (n a b : Int) : (runK prog (p30 n a b) 60).call 30 [.rng .i64 n 1 100000, .agg [.rng .i64 a (-100000) 100000, .rng .i64 b (-100000) 100000]] (Bg 9) finV =
    brK (decide (a > b)) (some (.tuple [zeroV, .int .i64 9])) (brK (in1 n) (brK (list54 n).isEmpty
      (brK (propB (rho30 11 (.slice none 0 0) (.int .i64 (-1)) (.int .i64 0) = rho30 11 (.slice none 0 0) (.int .i64 (-1)) (.int .i64 0) ∧ heap30e a b = heap30e a b ∧ list54 n = []))
        (brK (decide ((bestR n a b).1 < 0)) (some (.tuple [zeroV, .int .i64 6])) (some (.tuple [zeroV, .int .i64 0]))) none)
      (brK (propB (rho30 12 (.sslice 11 0 (list54 n).length) (.int .i64 (-1)) (.int .i64 0) = rho30 12 (.sslice 11 0 (list54 n).length) (.int .i64 (-1)) (.int .i64 0) ∧
          heap30 n a b (list54 n).length (fun i => (list54 n).getD i (0, 0, 0)) zero7 = heap30 n a b (list54 n).length (fun i => (list54 n).getD i (0, 0, 0)) zero7))
        (brK (decide ((bestR n a b).1 < 0)) (some (.tuple [zeroV, .int .i64 6])) (some (.tuple [.agg (bestC n (bestR n a b)), .int .i64 0]))) none)) none) := by kernel_rfl

theorem fitV_to {n a b : Int} {s : BS} (hn : 1 ≤ n ∧ n ≤ 100000) (hb : Good n a b s.2) (h0 : 0 ≤ s.1) (ι : Emb) (x : Value) (hx : VR ι (.tuple [.agg (bestC n s), .int .i64 0]) x) : VR ι (.tuple [fitV n s, .int .i64 0]) x := by
  have e1 : ¬ s.1 < 0 := by omega
  simp only [bestC, if_neg e1, decide_eq_true h0] at hx
  obtain ⟨hh, hl, hg, _⟩ := hb
  simp only [fitV, VR, VRL] at hx ⊢
  obtain ⟨ys, e0, y0, l0, q1, ⟨zs, e2, z0, m0, r1, r2, z1, m1, r3, r4, z2, m2, r5, r6, z3, m3, r7, r8, z4, m4, r9, r10, z5, m5, r11, r12, z6, m6, r13, r14, r15⟩, q2⟩ := hx
  exact ⟨ys, e0, y0, l0, q1, ⟨zs, e2, z0, m0, r1, ⟨r2, hn⟩, z1, m1, r3, r4, z2, m2, r5, r6, z3, m3, r7, ⟨r8, hh⟩, z4, m4, r9, r10, z5, m5, r11, ⟨r12, hl⟩, z6, m6, r13, ⟨r14, hg⟩, r15⟩, q2⟩

theorem none4_lt : (none4 : BS).1 < 0 := by decide

theorem sCho_sound {A : Amb} {prims : Int → Int → Int → Prims} {f : FuncId} (hpo : ∀ n a b, 1 ≤ n ∧ n ≤ 100000 → PrimOK prog A (prims n a b)) (hp : ∀ n a b, 1 ≤ n → n ≤ 100000 →
      (if a > b then (runK prog (prims n a b) 60).call f [.rng .i64 n 1 100000, .agg [.rng .i64 a (-100000) 100000, .rng .i64 b (-100000) 100000]] (Bg 9) finV = some (.tuple [zeroV, .int .i64 9])
       else if (bestF n a b).1 < 0 then (runK prog (prims n a b) 60).call f [.rng .i64 n 1 100000, .agg [.rng .i64 a (-100000) 100000, .rng .i64 b (-100000) 100000]] (Bg 9) finV = some (.tuple [zeroV, .int .i64 6])
       else (runK prog (prims n a b) 60).call f [.rng .i64 n 1 100000, .agg [.rng .i64 a (-100000) 100000, .rng .i64 b (-100000) 100000]] (Bg 9) finV = some (.tuple [.agg (bestC n (bestF n a b)), .int .i64 0])))
    (args : List AV) (v : AV) (hg : (sCho args).get = some v) :
    ∃ prims0 args' v' B', PrimOK prog A prims0 ∧ (∀ (ι : Emb) (xs : List Value), VRL ι args xs → VRL ι args' xs) ∧ (∀ (ι : Emb) (x : Value), VR ι v' x → VR ι v x) ∧ belowL 0 args' = true ∧ below 0 v' = true ∧
      Ca prog prims0 f args' (Bg prog.globals.size) (v', B', []) := by
  unfold sCho at hg
  split at hg
  · rename_i x y z
    split at hg
    · rename_i n a b h1 h2 h3
      obtain ⟨hc, hv⟩ := Tr.br_get hg
      simp only [Bool.and_eq_true, in1, inR, decide_eq_true_eq] at hc
      obtain ⟨hn, ha, hb⟩ := hc
      have hw : ∀ (ι : Emb) (xs : List Value), VRL ι [x, .agg [y, z]] xs → VRL ι [.rng .i64 n 1 100000, .agg [.rng .i64 a (-100000) 100000, .rng .i64 b (-100000) 100000]] xs := fun ι xs hx => by
        simp only [VRL, VR] at hx ⊢
        obtain ⟨x0, l0, q1, q2, x1, l1, q3, ⟨zs, q4, y0, m0, r1, r2, y1, m1, r3, r4, r5⟩, q5⟩ := hx
        exact ⟨x0, l0, q1, ⟨snum_VR h1 q2, hn⟩, x1, l1, q3, ⟨zs, q4, y0, m0, r1, ⟨snum_VR h2 r2, ha⟩, y1, m1, r3, ⟨snum_VR h3 r4, hb⟩, r5⟩, q5⟩
      have hpk := hpo n a b hn
      have hr := hp n a b hn.1 hn.2
      by_cases h9 : a > b
      · rw [if_pos h9] at hr
        rw [decide_eq_true h9] at hv
        simp only [Tr.get, Option.some.injEq] at hv
        subst hv
        obtain ⟨B', hca⟩ := Ca.of_finV hr
        exact ⟨prims n a b, _, _, B', hpk, hw, fun _ _ h => h, rfl, rfl, by rw [gsz]; exact hca⟩
      · rw [if_neg h9] at hr
        rw [decide_eq_false h9] at hv
        by_cases h6 : (bestF n a b).1 < 0
        · rw [if_pos h6] at hr
          simp only [Tr.get, decide_eq_true h6, Option.some.injEq] at hv
          subst hv
          obtain ⟨B', hca⟩ := Ca.of_finV hr
          exact ⟨prims n a b, _, _, B', hpk, hw, fun _ _ h => h, rfl, rfl, by rw [gsz]; exact hca⟩
        · rw [if_neg h6] at hr
          simp only [Tr.get, decide_eq_false h6, Option.some.injEq] at hv
          subst hv
          obtain ⟨B', hca⟩ := Ca.of_finV hr
          have hG : Good n a b (bestF n a b).2 := by
            rcases (bestF_spec n a b).1 with h | h
            · rw [h] at h6; exact (h6 none4_lt).elim
            · exact h.1
          exact ⟨prims n a b, _, _, B', hpk, hw, fitV_to hn hG (by omega), rfl, rfl, by rw [gsz]; exact hca⟩
    · cases hg
  · cases hg

theorem pCho29_ok {A : Amb} (hT : Tab A) (hG : prog.globals.size ≤ A.G) : PrimOK prog A (pChB.addt 29 sCho) := PrimOK.addt3 hmix hnum (pChB_ok hT hG) hG func29 (by kernel_rfl) fun args v hg => sCho_sound (prims := p29) (f := 29) (p29_ok hT hG) (fun n a b h1 h2 => by
  have hr := run29 n a b
  rw [propB_true ⟨rfl, rfl⟩, brK_t] at hr
  split
  · rename_i h; rw [decide_eq_true h, brK_t] at hr; exact hr
  · rename_i h; rw [decide_eq_false h, brK_f] at hr
    split
    · rename_i h; rw [decide_eq_true h, brK_t] at hr; exact hr
    · rename_i h; rw [decide_eq_false h, brK_f] at hr; exact hr) args v hg

def pCho : Prims := (pChB.addt 29 sCho).addt 30 sCho
theorem pCho_ok {A : Amb} (hT : Tab A) (hG : prog.globals.size ≤ A.G) : PrimOK prog A pCho := PrimOK.addt3 hmix hnum (pCho29_ok hT hG) hG func30 (by kernel_rfl) fun args v hg => sCho_sound (prims := p30) (f := 30) (p30_ok hT hG) (fun n a b h1 h2 => by
  have hr := run30 n a b
  rw [show in1 n = true from decide_eq_true ⟨h1, h2⟩, brK_t, best_eq] at hr
  split
  · rename_i h; rw [decide_eq_true h, brK_t] at hr; exact hr
  · rename_i h; rw [decide_eq_false h, brK_f] at hr
    cases he : (list54 n).isEmpty with
    | true =>
      have hnil : list54 n = [] := List.isEmpty_iff.1 he
      rw [he, brK_t, propB_true ⟨rfl, rfl, hnil⟩, brK_t] at hr
      have e : bestF n a b = none4 := by rw [← best_eq]; simp only [bestR, hnil]; rfl
      have h6 : (bestF n a b).1 < 0 := by rw [e]; exact none4_lt
      rw [if_pos h6]
      rw [decide_eq_true h6, brK_t] at hr
      exact hr
    | false =>
      rw [he, brK_f, propB_true ⟨rfl, rfl⟩, brK_t] at hr
      split
      · rename_i h; rw [decide_eq_true h, brK_t] at hr; exact hr
      · rename_i h; rw [decide_eq_false h, brK_f] at hr; exact hr) args v hg

end Go.Proofs.Tryz
