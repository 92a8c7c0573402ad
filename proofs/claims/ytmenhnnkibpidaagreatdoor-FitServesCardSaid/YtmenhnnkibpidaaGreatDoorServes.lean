/- The law FitServes, for all arguments. -/
import Derived.Test.YtmenhnnkibpidaaGreatDoorServ
import Derived.Test.YtmenhnnkibpidaaGreatDoorAdLoop
import Derived.Test.YtmenhnnkibpidaaGreatDoorChooses

namespace Go.Proofs.Tryz
open Go.Ad

noncomputable def code10 : Code := match f10.body with | some c => c | none => .skip
theorem code10_eq : f10.body = some code10 := by kernel_rfl
noncomputable def body10 : Code := match (blocks code10).lookup 1 with | some c => c | none => .skip
theorem blocks10 : (blocks code10).filter (fun p => p.1 == 1) = [(1, body10)] := by kernel_rfl

abbrev loX (n : Int) (x : Int × Int × Int) : Int := loC n 4 x.1 x.2.1 x.2.2
abbrev hiX (n : Int) (x : Int × Int × Int) : Int := hiC n 4 x.1 x.2.1 x.2.2
def fc (n : Int) (x : Int × Int × Int) : List AV := [.rng .i64 n 1 100000, .bool true, .int .i64 4, .rng .i64 x.1 5 12, .bool false, .rng .i64 x.2.1 0 9, .rng .i64 x.2.2 5 12]
def srvB (n a b : Int) (x : Int × Int × Int) : Heap := Bg 9 ++ [.cells [.rng .i64 a (-100000) 100000, .rng .i64 b (-100000) 100000] 0 true 27, .cells (fc n x) 0 true 25, .cells [.rng .i64 (loX n x) (-99999) 99999, .rng .i64 (hiX n x) (-99999) 99999] 0 true 27]
def srvT (n : Int) (i : AV) : List AV := [.rng .i64 n 1 100000, .bad, .bad, .ptr (some (9, 0)), .bad, .ptr (some (10, 0)), .bad, .ptr (some (11, 0))] ++ List.replicate 43 .bad ++ [i] ++ List.replicate 75 .bad
def live10 : List (Tmp × Wd) := [(0,.keep),(3,.keep),(5,.keep),(7,.keep),(51,.keep)]

abbrev ReX := Option (AEx × List AV × Heap × List Nat)
def rndTree (n a b : Int) (x y : Int × Int × Int) (i : AV) : ReX :=
  let s : ReX := some (.normal, srvT n i, srvB n a b x, [])
  brK (inV n 4 y.1 && inV n y.2.1 y.2.2) (brK (okF n 4 y.1 y.2.1 y.2.2) (brK (decide (loX n y ≥ a)) (brK (decide (hiX n y ≤ b)) (brK (decide (hiX n y - loX n y > hiX n x - loX n x))
    (some (.ret, srvT n i, srvB n a b x, [])) s) s) s) s)
  (brK (decide (y.1 = 13) && (inV n 4 5 && inV n y.2.1 y.2.2)) s (brK (decide (y.2.2 = 13) && (inV n 4 y.1 && inV n y.2.1 5)) s none))

theorem rnd0 (n a b : Int) (x : Int × Int × Int) : execK prog (runK prog pSrv 60) noBps (.block 1 body10) (srvT n (.int .i64 0)) (srvB n a b x) (nrmK (fun _ => live10) (fun _ => []) 12 []) = rndTree n a b x (x.1 + 1, x.2.1, x.2.2) (.int .i64 0) := by kernel_rfl
theorem rnd1 (n a b : Int) (x : Int × Int × Int) : execK prog (runK prog pSrv 60) noBps (.block 1 body10) (srvT n (.int .i64 1)) (srvB n a b x) (nrmK (fun _ => live10) (fun _ => []) 12 []) = rndTree n a b x (x.1, x.2.1, x.2.2 + 1) (.int .i64 1) := by kernel_rfl

theorem rndEnd {n a b : Int} {x y : Int × Int × Int} {i : AV} (hn : 1 ≤ n ∧ n ≤ 100000) (hx : ∀ z, Good n a b z → wid n z ≤ hiX n x - loX n x) (h1 : 5 ≤ y.1 ∧ y.1 ≤ 13) (h2 : 0 ≤ y.2.1 ∧ y.2.1 ≤ 9) (h3 : 5 ≤ y.2.2 ∧ y.2.2 ≤ 13) (h4 : y.1 ≤ 12 ∨ y.2.2 ≤ 12) :
    rndTree n a b x y i = some (.normal, srvT n i, srvB n a b x, []) := by
  unfold rndTree
  by_cases c1 : y.1 ≤ 12
  · by_cases c2 : y.2.2 ≤ 12
    · have e1 : (inV n 4 y.1 && inV n y.2.1 y.2.2) = true := by simp only [inV, Bool.and_eq_true, decide_eq_true_eq]; omega
      rw [e1, brK_t]
      cases ho : okF n 4 y.1 y.2.1 y.2.2 with
      | false => rfl
      | true =>
        rw [brK_t]
        by_cases c3 : loX n y ≥ a
        · by_cases c4 : hiX n y ≤ b
          · have := hx y ⟨⟨h1.1, c1⟩, h2, ⟨h3.1, c2⟩, ho, c3, c4⟩
            have e5 : ¬ hiX n y - loX n y > hiX n x - loX n x := by unfold wid at this; show ¬ _; simp only [hiX, loX] at this ⊢; omega
            rw [decide_eq_true c3, decide_eq_true c4, decide_eq_false e5]; rfl
          · rw [decide_eq_true c3, decide_eq_false c4]; rfl
        · rw [decide_eq_false c3]; rfl
    · have e1 : (inV n 4 y.1 && inV n y.2.1 y.2.2) = false := by simp only [inV, Bool.and_eq_false_iff, decide_eq_false_iff_not]; omega
      have e2 : (decide (y.1 = 13) && (inV n 4 5 && inV n y.2.1 y.2.2)) = false := by simp only [Bool.and_eq_false_iff, decide_eq_false_iff_not]; omega
      have e3 : (decide (y.2.2 = 13) && (inV n 4 y.1 && inV n y.2.1 5)) = true := by simp only [inV, Bool.and_eq_true, decide_eq_true_eq]; omega
      rw [e1, e2, e3]; rfl
  · have e1 : (inV n 4 y.1 && inV n y.2.1 y.2.2) = false := by simp only [inV, Bool.and_eq_false_iff, decide_eq_false_iff_not]; omega
    have e2 : (decide (y.1 = 13) && (inV n 4 5 && inV n y.2.1 y.2.2)) = true := by simp only [inV, Bool.and_eq_true, decide_eq_true_eq]; omega
    rw [e1, e2]; rfl

noncomputable def g10 (n a b : Int) (x : Int × Int × Int) (ρ : List AV) (B : Heap) : Tr (AEx × List AV × Heap × List Nat) := match ρ.getD 51 .bad with
  | .int _ 0 => hookN live10 [] [] (srvT n (.int .i64 0)) (srvB n a b x) .normal (srvT n (.int .i64 0)) (srvB n a b x) ρ B
  | _ => hookN live10 [] [] (srvT n (.int .i64 1)) (srvB n a b x) .normal (srvT n (.int .i64 1)) (srvB n a b x) ρ B

theorem frP_refl {ds : List Nat} : ∀ {i : Nat} {B : Heap}, frP ds i B B
  | _, [] => trivial
  | _, _ :: _ => ⟨.inr rfl, frP_refl⟩

theorem g10_ok {A : Amb} (hT : Tab A) (hG : prog.globals.size ≤ A.G) {n a b : Int} {x : Int × Int × Int} (hn : 1 ≤ n ∧ n ≤ 100000) (hx : ∀ z, Good n a b z → wid n z ≤ hiX n x - loX n x) (h1 : 5 ≤ x.1 ∧ x.1 ≤ 12) (h2 : 0 ≤ x.2.1 ∧ x.2.1 ≤ 9) (h3 : 5 ≤ x.2.2 ∧ x.2.2 ≤ 12) :
    ∀ ρ B e ρ' B' D, (g10 n a b x ρ B).get = some (e, ρ', B', D) → AFr B B' D ∧ SEB prog A B (.block 1 body10) ⟨ρ, B, []⟩ e ⟨ρ', B', D⟩ := by
  intro ρ B e ρ' B' D h
  have k0 := (rnd0 n a b x).trans (rndEnd (y := (x.1 + 1, x.2.1, x.2.2)) (i := .int .i64 0) hn hx (by dsimp only; omega) h2 (by dsimp only; omega) (by dsimp only; omega))
  have k1 := (rnd1 n a b x).trans (rndEnd (y := (x.1, x.2.1, x.2.2 + 1)) (i := .int .i64 1) hn hx (by dsimp only; omega) h2 (by dsimp only; omega) (by dsimp only; omega))
  unfold g10 at h
  split at h
  · exact hookN_ok rfl frP_refl (fun Bb hb => SEB.of_KN hmix hnum (pSrv_ok hT hG) (.none _) (hb.trans rfl) k0) _ _ _ _ _ _ h
  · exact hookN_ok rfl frP_refl (fun Bb hb => SEB.of_KN hmix hnum (pSrv_ok hT hG) (.none _) (hb.trans rfl) k1) _ _ _ _ _ _ h

noncomputable def g10x (n a b : Int) (ρ : List AV) (B : Heap) : Tr (AEx × List AV × Heap × List Nat) := .br (decide (0 ≤ (bestF n a b).1)) (g10 n a b (bestF n a b).2 ρ B) .fail
noncomputable def p10 (n a b : Int) : Prims := pSrv.addb 10 1 (g10x n a b)

theorem p10_ok {A : Amb} (hT : Tab A) (hG : prog.globals.size ≤ A.G) {n a b : Int} (hn : 1 ≤ n ∧ n ≤ 100000) : PrimOK prog A (p10 n a b) := PrimOK.addb (pSrv_ok hT hG) func10 code10_eq blocks10 fun ρ B e ρ' B' D h => by
  obtain ⟨hc, hv⟩ := Tr.br_get h
  rw [decide_eq_true_eq] at hc
  have hsp := bestF_spec n a b
  rcases hsp.1 with e | ⟨hg, he, hge0⟩
  · have := none4_lt; rw [e] at hc; omega
  · exact g10_ok hT hG hn (fun z hz => by have := hsp.2 z hz; rw [he] at this; exact this) hg.1 hg.2.1 hg.2.2.1 ρ B e ρ' B' D hv

noncomputable def srvMid (n a b w : Int) (x : Int × Int × Int) (G : BS) : Option Unit :=
  brK (inV n 4 x.1 && inV n x.2.1 x.2.2) (brK (okF n 4 x.1 x.2.1 x.2.2) (brK (decide (loX n x < a)) none (brK (decide (hiX n x > b)) none (brK (n != n) none
    (brK (decide (0 ≤ w)) (brK (propB (srvT n (.int .i64 0) = srvT n (.int .i64 0) ∧ srvB n a b x = srvB n a b x)) (brK (decide (0 ≤ w)) (brK (propB (srvT n (.int .i64 1) = srvT n (.int .i64 1) ∧ srvB n a b x = srvB n a b x))
      (brK (in1 n && (inR (loX n x) && inR (hiX n x))) (brK (decide (loX n x > hiX n x)) none (brK (decide (G.1 < 0)) none
        (brK (inV n 4 G.2.1 && inV n G.2.2.1 G.2.2.2) (brK (okF n 4 G.2.1 G.2.2.1 G.2.2.2) (brK (loX n G.2 == loX n x && (hiX n G.2 == hiX n x && true)) (some ()) none) none)
          (brK (decide (G.2.1 = 13) && (inV n 4 5 && inV n G.2.2.1 G.2.2.2)) none (brK (decide (G.2.2.2 = 13) && (inV n 4 G.2.1 && inV n G.2.2.1 5)) none none))))) none) none) none) none) none)))) none)
  (brK (decide (x.1 = 13) && (inV n 4 5 && inV n x.2.1 x.2.2)) none (brK (decide (x.2.2 = 13) && (inV n 4 x.1 && inV n x.2.1 5)) none none))

theorem srvTree (n a b : Int) : (runK prog (p10 n a b) 60).call 10 (argsCho n a b) (Bg 9) goodK =
    brK (in1 n && (inR a && inR b)) (brK (decide (a > b)) (some ()) (brK (decide ((bestF n a b).1 < 0)) (some ())
      (srvMid n a b (bestF n a b).1 (bestF n a b).2 (bestF n (loX n (bestF n a b).2) (hiX n (bestF n a b).2))))) none := by kernel_rfl

theorem srvMid_end {n a b : Int} (hn : 1 ≤ n ∧ n ≤ 100000) (ha : -100000 ≤ a ∧ a ≤ 100000) (hb : -100000 ≤ b ∧ b ≤ 100000) {w : Int} (h0 : 0 ≤ w) {x : Int × Int × Int} (hx : Good n a b x) (hw : 0 ≤ wid n x) : srvMid n a b w x (bestF n (loX n x) (hiX n x)) = some () := by
  obtain ⟨h1, h2, h3, h4, h5, h6⟩ := hx
  have hs := bestF_spec n (loX n x) (hiX n x)
  have hge : wid n x ≤ (bestF n (loX n x) (hiX n x)).1 := hs.2 x ⟨h1, h2, h3, h4, Int.le_refl _, Int.le_refl _⟩
  rcases hs.1 with e | ⟨hg, he, hge0⟩
  · have := none4_lt; rw [e] at hge; omega
  obtain ⟨g1, g2, g3, g4, g5, g6⟩ := hg
  generalize bestF n (loX n x) (hiX n x) = G at *
  have i1 : (inV n 4 x.1 && inV n x.2.1 x.2.2) = true := by simp only [inV, Bool.and_eq_true, decide_eq_true_eq]; omega
  have i2 : (inV n 4 G.2.1 && inV n G.2.2.1 G.2.2.2) = true := by simp only [inV, Bool.and_eq_true, decide_eq_true_eq]; omega
  have hwx : wid n x = hiX n x - loX n x := rfl
  have hwg : wid n G.2 = hiX n G.2 - loX n G.2 := rfl
  have l5 : a ≤ loX n x := h5
  have l6 : hiX n x ≤ b := h6
  have m5 : loX n x ≤ loX n G.2 := g5
  have m6 : hiX n G.2 ≤ hiX n x := g6
  have i3 : (in1 n && (inR (loX n x) && inR (hiX n x))) = true := by simp only [in1, inR, Bool.and_eq_true, decide_eq_true_eq]; omega
  have q1 : loX n G.2 = loX n x := by omega
  have q2 : hiX n G.2 = hiX n x := by omega
  unfold srvMid
  rw [i1, brK_t, h4, brK_t, decide_eq_false (by omega : ¬ loX n x < a), brK_f, decide_eq_false (by omega : ¬ hiX n x > b), brK_f, show (n != n) = false by simp, brK_f, decide_eq_true h0, brK_t, propB_true ⟨rfl, rfl⟩, brK_t, brK_t, propB_true ⟨rfl, rfl⟩, brK_t, i3, brK_t,
    decide_eq_false (by omega : ¬ loX n x > hiX n x), brK_f, decide_eq_false (by omega : ¬ G.1 < 0), brK_f, i2, brK_t, g4, brK_t, q1, q2]
  simp [brK]

theorem srE1 (n a b : Int) : (runK prog pChB 60).call 10 [.rng .i64 n (-9223372036854775808) 0, .agg [.sint .i64 a, .sint .i64 b]] (Bg 9) goodK = some () := by kernel_rfl
theorem srE2 (n a b : Int) : (runK prog pChB 60).call 10 [.rng .i64 n 100001 9223372036854775807, .agg [.sint .i64 a, .sint .i64 b]] (Bg 9) goodK = some () := by kernel_rfl
theorem srE3 (n a b : Int) : (runK prog pChB 60).call 10 [.rng .i64 n 1 100000, .agg [.rng .i64 a (-9223372036854775808) (-100001), .sint .i64 b]] (Bg 9) goodK = some () := by kernel_rfl
theorem srE4 (n a b : Int) : (runK prog pChB 60).call 10 [.rng .i64 n 1 100000, .agg [.rng .i64 a 100001 9223372036854775807, .sint .i64 b]] (Bg 9) goodK = some () := by kernel_rfl
theorem srE5 (n a b : Int) : (runK prog pChB 60).call 10 [.rng .i64 n 1 100000, .agg [.rng .i64 a (-100000) 100000, .rng .i64 b (-9223372036854775808) (-100001)]] (Bg 9) goodK = some () := by kernel_rfl
theorem srE6 (n a b : Int) : (runK prog pChB 60).call 10 [.rng .i64 n 1 100000, .agg [.rng .i64 a (-100000) 100000, .rng .i64 b 100001 9223372036854775807]] (Bg 9) goodK = some () := by kernel_rfl

/-- The law, for all arguments. -/
theorem fitServes (n a b : Int) (W : World) (hG : prog.globals.size ≤ W.heap.size) (hT : Tab (ambOf W)) (bn : I64 n) (ba : I64 a) (bb : I64 b) :
    Calls prog 10 #[.int .i64 n, .agg #[.int .i64 a, .int .i64 b]] W fun e W' => e = .returned (.bool true) ∧ RowKit.Below W.heap.size W W' := by
  have key : ∀ {prims : Prims}, PrimOK prog (ambOf W) prims → ∀ {x y z : AV}, (runK prog prims 60).call 10 [x, .agg [y, z]] (Bg 9) goodK = some () → belowL 0 [x, .agg [y, z]] = true →
      VR (iotaG 9) x (.int .i64 n) → VR (iotaG 9) y (.int .i64 a) → VR (iotaG 9) z (.int .i64 b) →
      Calls prog 10 #[.int .i64 n, .agg #[.int .i64 a, .int .i64 b]] W fun e W' => e = .returned (.bool true) ∧ RowKit.Below W.heap.size W W' := by
    intro prims hp x y z hk hbl hx hy hz
    refine law_of_K hmix hnum hp hG (n := 60) (args := [x, .agg [y, z]]) (by rw [gsz]; exact hk) hbl (iotaG 9) _ ?_
    simp only [VRL, VR]
    exact ⟨_, _, rfl, hx, _, _, rfl, ⟨_, rfl, _, _, rfl, hy, _, _, rfl, hz, rfl⟩, rfl⟩
  have r : ∀ {x lo hi : Int}, lo ≤ x → x ≤ hi → VR (iotaG 9) (.rng .i64 x lo hi) (.int .i64 x) := fun p q => by simp only [VR]; exact ⟨trivial, p, q⟩
  have s : ∀ {x : Int}, VR (iotaG 9) (.sint .i64 x) (.int .i64 x) := by simp [VR]
  have hp := pChB_ok hT hG
  unfold I64 at bn ba bb
  by_cases c1 : n ≤ 0
  · exact key hp (srE1 n a b) rfl (r (by omega) (by omega)) s s
  by_cases c2 : 100001 ≤ n
  · exact key hp (srE2 n a b) rfl (r (by omega) (by omega)) s s
  by_cases c3 : a ≤ -100001
  · exact key hp (srE3 n a b) rfl (r (by omega) (by omega)) (r (by omega) (by omega)) s
  by_cases c4 : 100001 ≤ a
  · exact key hp (srE4 n a b) rfl (r (by omega) (by omega)) (r (by omega) (by omega)) s
  by_cases c5 : b ≤ -100001
  · exact key hp (srE5 n a b) rfl (r (by omega) (by omega)) (r (by omega) (by omega)) (r (by omega) (by omega))
  by_cases c6 : 100001 ≤ b
  · exact key hp (srE6 n a b) rfl (r (by omega) (by omega)) (r (by omega) (by omega)) (r (by omega) (by omega))
  have e0 : (in1 n && (inR a && inR b)) = true := by simp only [in1, inR, Bool.and_eq_true, decide_eq_true_eq]; omega
  have ht := srvTree n a b
  rw [e0, brK_t] at ht
  refine key (p10_ok hT hG (by omega)) (x := .rng .i64 n 1 100000) (y := .rng .i64 a (-100000) 100000) (z := .rng .i64 b (-100000) 100000) (ht.trans ?_) rfl (r (by omega) (by omega)) (r (by omega) (by omega)) (r (by omega) (by omega))
  by_cases h6 : (bestF n a b).1 < 0
  · rw [decide_eq_true h6]
    cases decide (a > b) <;> rfl
  · rcases (bestF_spec n a b).1 with e | ⟨hg, he, hge0⟩
    · exact absurd (by rw [e]; exact none4_lt) h6
    · rw [decide_eq_false h6, brK_f, srvMid_end (by omega) (by omega) (by omega) hge0 hg (by omega)]
      cases decide (a > b) <;> rfl
#print axioms fitServes
end Go.Proofs.Tryz
