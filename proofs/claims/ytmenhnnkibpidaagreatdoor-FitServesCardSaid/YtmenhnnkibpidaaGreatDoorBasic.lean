/- The list of all right fits of the basic hole, by the reference: its loops. -/
import Derived.Test.YtmenhnnkibpidaaGreatDoorChk
import Derived.Test.YtmenhnnkibpidaaGreatDoorAdLoop

namespace Go.Proofs.Tryz
open Go.Ad

/-- The reference's check by cases. -/
def sRefB : List AV → Tr AV
  | [.agg [a, .bool true, c, d, .bool false, c', d']] => match snum a, snum c, snum d, snum c', snum d' with
    | some (.i64, n), some (.i64, m), some (.i64, g), some (.i64, m'), some (.i64, g') =>
      .br (inV n m g && inV n m' g') (.br (okF n m g m' g') (.leaf (.int .i64 0)) (.leaf (.int .i64 2))) .fail
    | _, _, _, _, _ => .fail
  | _ => .fail

theorem sRefB_sound (args : List AV) (v : AV) (hg : (sRefB args).get = some v) :
    ∃ args' v' B', (∀ (ι : Emb) (xs : List Value), VRL ι args xs → VRL ι args' xs) ∧ (∀ (ι : Emb) (x : Value), VR ι v' x → VR ι v x) ∧ belowL 0 args' = true ∧ below 0 v' = true ∧
      Ca prog pLim 15 args' (Bg prog.globals.size) (v', B', []) := by
  unfold sRefB at hg
  split at hg
  · rename_i a c d c' d'
    split at hg
    · rename_i n m g m' g' h1 h2 h3 h4 h5
      obtain ⟨hc, hv⟩ := Tr.br_get hg
      rw [Bool.and_eq_true] at hc
      have full9 : ∀ {ok : Int → Int → Int → Int → Int → AV} {e : AV}, sChk (okF n m g m' g') (okF n m g m' g') ok e [.agg [a, .bool true, c, d, .bool false, c', d']] =
          (match okF n m g m' g' with
            | true => .br (inV n m g && (inV n m' g' && okF n m g m' g')) (.leaf (ok n m g m' g')) .fail
            | false => .br (inV n m g && (inV n m' g' && !okF n m g m' g')) (.leaf e) .fail) := by
        intro ok e
        simp only [sChk, h1, h2, h3, h4, h5, ite_self]
        cases okF n m g m' g' <;> rfl
      refine sChk_sound (b1 := okF n m g m' g') (b2 := okF n m g m' g') (okv := fun _ _ _ _ _ => .int .i64 0) (errv := .int .i64 2) (fun _ _ _ _ _ => rfl) rfl refRun _ v ?_
      rw [full9]
      cases ho : okF n m g m' g' with
      | true => rw [ho] at hv; simp only [hc.1, hc.2, Bool.and_self]; exact hv
      | false => rw [ho] at hv; simp only [hc.1, hc.2, Bool.and_self, Bool.not_false]; exact hv
    · cases hg
  · cases hg

def pBas : Prims := pLim.addt 15 sRefB

theorem pBas_ok {A : Amb} (hT : Tab A) (hG : prog.globals.size ≤ A.G) : PrimOK prog A pBas := PrimOK.addt hmix hnum (pLim_ok hT hG) hG func15 (by kernel_rfl) sRefB_sound

/-- The innermost loop: its round. -/
noncomputable def code54 : Code := match f54.body with
  | some c => c
  | none => .skip
def findB (id : Nat) : Code → Option Code
  | .seq a b => (findB id a).orElse fun _ => findB id b
  | .cond _ a b => (findB id a).orElse fun _ => findB id b
  | .block i c => if i = id then some c else findB id c
  | .loop c => findB id c
  | .scope c => findB id c
  | _ => none
def unLoop : Option Code → Code
  | some (.loop c) => c
  | _ => .skip
/-- The rounds of the three loops. -/
noncomputable def round4 : Code := unLoop (findB 4 code54)
noncomputable def round2 : Code := unLoop (findB 2 code54)
noncomputable def round0 : Code := unLoop (findB 0 code54)

def live54 : List Tmp := [0, 3, 4, 5, 6]
def rho (n : Int) (out h l g : AV) : List AV := [.rng .i64 n 1 100000, .bad, .bad, out, h, l, g] ++ List.replicate 28 .bad

theorem rho_wk {ι : Emb} {n : Int} {o h l g o' h' l' g' : AV} (h1 : ∀ v, VR ι o v → VR ι o' v) (h2 : ∀ v, VR ι h v → VR ι h' v) (h3 : ∀ v, VR ι l v → VR ι l' v) (h4 : ∀ v, VR ι g v → VR ι g' v) (vs : List Value)
    (hv : VRL ι (rho n o h l g) vs) : VRL ι (rho n o' h' l' g') vs := by
  simp only [rho, List.cons_append, List.nil_append, VRL] at hv ⊢
  obtain ⟨x0, y0, e0, q0, x1, y1, e1, q1, x2, y2, e2, q2, x3, y3, e3, q3, x4, y4, e4, q4, x5, y5, e5, q5, x6, y6, e6, q6, q7⟩ := hv
  exact ⟨x0, y0, e0, q0, x1, y1, e1, q1, x2, y2, e2, q2, x3, y3, e3, h1 _ q3, x4, y4, e4, h2 _ q4, x5, y5, e5, h3 _ q5, x6, y6, e6, h4 _ q6, q7⟩

/-- A fit of the basic hole: its seven cells. -/
def row54 (n : Int) (x : Int × Int × Int) : List AV := [.sint .i64 n, .sbool true, .sint .i64 4, .sint .i64 x.1, .sbool false, .sint .i64 x.2.1, .sint .i64 x.2.2]
def vec54 (n : Int) (L : List (Int × Int × Int)) : AObj := .vec L.length (fun i => row54 n (L.getD i (0, 0, 0))) 7 35
def outS (L : List (Int × Int × Int)) : AV := if L.isEmpty then .slice none 0 0 else .sslice 9 0 L.length
def heapS (n : Int) (L : List (Int × Int × Int)) : Heap := if L.isEmpty then Bg 9 else Bg 9 ++ [vec54 n L]
def stS (n : Int) (L : List (Int × Int × Int)) (h l g : AV) : St := ⟨rho n (outS L) h l g, heapS n L, []⟩

/-- One fit more, if it is right. -/
def step54 (n h l g : Int) (L : List (Int × Int × Int)) : List (Int × Int × Int) := if okF n 4 h l g then L ++ [(h, l, g)] else L

def newCells (n h l g : Int) : List AV := [.rng .i64 n 1 100000, .bool true, .int .i64 4, .rng .i64 h 5 12, .bool false, .rng .i64 l 0 9, .rng .i64 g 5 13]

theorem r4nil (n h l g : Int) : execK prog (runK prog pBas 60) noBps round4 (rho n (.slice none 0 0) (.rng .i64 h 5 12) (.rng .i64 l 0 9) (.rng .i64 g 5 13)) (Bg 9) (keepK live54) =
    brK (decide (g ≤ 12)) (brK (inV n 4 h && inV n l g) (brK (okF n 4 h l g)
      (some (.normal, rho n (.slice (some (11, 0)) 1 1) (.rng .i64 h 5 12) (.rng .i64 l 0 9) (.rng .i64 (g + 1) 6 14), Bg 9 ++ [.cells (newCells n h l g) 0 true 35, .cells (newCells n h l g) 7 true 35, .cells (newCells n h l g) 7 true 35], [9]))
      (some (.normal, rho n (.slice none 0 0) (.rng .i64 h 5 12) (.rng .i64 l 0 9) (.rng .i64 (g + 1) 6 14), Bg 9 ++ [.cells (newCells n h l g) 0 true 35], [9]))) none)
      (some (.exit 4, rho n (.slice none 0 0) (.rng .i64 h 5 12) (.rng .i64 l 0 9) (.rng .i64 g 5 13), Bg 9, [])) := by kernel_rfl

theorem r4vec (n h l g : Int) (k : Nat) (R : Nat → Int × Int × Int) : execK prog (runK prog pBas 60) noBps round4 (rho n (.sslice 9 0 k) (.rng .i64 h 5 12) (.rng .i64 l 0 9) (.rng .i64 g 5 13)) (Bg 9 ++ [.vec k (fun i => row54 n (R i)) 7 35]) (keepK live54) =
    brK (decide (g ≤ 12)) (brK (inV n 4 h && inV n l g) (brK (okF n 4 h l g)
      (brK (decide (k + 1 < 2 ^ 31 ∧ k = k))
        (some (.normal, rho n (.sslice 12 0 (k + 1)) (.rng .i64 h 5 12) (.rng .i64 l 0 9) (.rng .i64 (g + 1) 6 14), Bg 9 ++ [.dead, .cells (newCells n h l g) 0 true 35, .cells (newCells n h l g) 7 true 35,
          .vec (k + 1) (fun r => mrgL (decide (r < k)) (row54 n (R r)) (newCells n h l g)) 7 35], [10, 9])) none)
      (some (.normal, rho n (.sslice 9 0 k) (.rng .i64 h 5 12) (.rng .i64 l 0 9) (.rng .i64 (g + 1) 6 14), Bg 9 ++ [.vec k (fun i => row54 n (R i)) 7 35, .cells (newCells n h l g) 0 true 35], [10]))) none)
      (some (.exit 4, rho n (.sslice 9 0 k) (.rng .i64 h 5 12) (.rng .i64 l 0 9) (.rng .i64 g 5 13), Bg 9 ++ [.vec k (fun i => row54 n (R i)) 7 35], [])) := by kernel_rfl

theorem Wk.last {A : Amb} {B0 B1 : Heap} {ρ : List AV} {D : List Nat} {o o' : AObj} (hB : B0.length ≤ B1.length) (ho : ∀ (ι : Emb) (h : Array Obj) (l : Ad.Loc), OR ι h l o → OR ι h l o') (h1 : o'.own = true → o.own = true) (h2 : o'.live = true → o.live = true) :
    Wk A B0 ⟨ρ, B1 ++ [o], D⟩ ⟨ρ, B1 ++ [o'], D⟩ := by
  refine Wk.objs (fun _ h => h) (by simp) (fun b o2 hb => ?_) (fun b hb _ => ?_)
  · by_cases e : b < B1.length
    · rw [List.getElem?_append_left e] at hb ⊢
      exact ⟨o2, hb, fun _ _ _ h => h, fun h => h, fun h => h⟩
    · by_cases e2 : b = B1.length
      · subst e2
        simp at hb; subst hb
        exact ⟨o, by simp, ho, h1, h2⟩
      · rw [List.getElem?_eq_none (by simp; omega)] at hb; cases hb
  · rw [List.getElem?_append_left (by omega), List.getElem?_append_left (by omega)]

theorem slice_sslice {ι ι2 : Emb} {b b' n : Nat} (hn : 0 < n) (h : ι2 b' = ι b) (v : Value) (hv : VR ι (.slice (some (b, 0)) n n) v) : VR ι2 (.sslice b' 0 n) v := by
  simp only [VR] at hv ⊢
  obtain ⟨l, cap, off, h1, h2, h3, h4, h5, h6, rfl⟩ := hv
  have hoff : off = l.d := by rcases h4 with h4 | h4 <;> omega
  subst hoff
  exact ⟨l, cap, by rw [h]; exact h1, by omega, by simpa using h6, by simp⟩

theorem sslice_to {ι ι2 : Emb} {b b' n : Nat} (h : ι2 b' = ι b) (v : Value) (hv : VR ι (.sslice b 0 n) v) : VR ι2 (.sslice b' 0 n) v := by
  simp only [VR] at hv ⊢; rw [h]; exact hv

theorem rng_to {ι ι2 : Emb} {k : IntKind} {n a b a' b' : Int} (h : a ≤ n → n ≤ b → a' ≤ n ∧ n ≤ b') (v : Value) (hv : VR ι (.rng k n a b) v) : VR ι2 (.rng k n a' b') v := by
  simp only [VR] at hv ⊢; exact ⟨hv.1, h hv.2.1 hv.2.2⟩

theorem rho_to {ι ι2 : Emb} {n : Int} {o h l g o' h' l' g' : AV} (h1 : ∀ v, VR ι o v → VR ι2 o' v) (h2 : ∀ v, VR ι h v → VR ι2 h' v) (h3 : ∀ v, VR ι l v → VR ι2 l' v) (h4 : ∀ v, VR ι g v → VR ι2 g' v) (vs : List Value)
    (hv : VRL ι (rho n o h l g) vs) : VRL ι2 (rho n o' h' l' g') vs := by
  have hbad : ∀ (k : Nat) (l : List Value), VRL ι (List.replicate k .bad) l → VRL ι2 (List.replicate k .bad) l := fun k => by
    induction k with
    | zero => intro l h; simpa [VRL] using h
    | succ k ih =>
      intro l h
      simp only [List.replicate_succ, VRL] at h ⊢
      obtain ⟨x, y, e, _, q⟩ := h
      exact ⟨x, y, e, by simp only [VR], ih y q⟩
  simp only [rho, List.cons_append, List.nil_append, VRL] at hv ⊢
  obtain ⟨x0, y0, e0, q0, x1, y1, e1, q1, x2, y2, e2, q2, x3, y3, e3, q3, x4, y4, e4, q4, x5, y5, e5, q5, x6, y6, e6, q6, q7⟩ := hv
  exact ⟨x0, y0, e0, rng_to (fun a b => ⟨a, b⟩) _ q0, x1, y1, e1, by simp only [VR], x2, y2, e2, by simp only [VR], x3, y3, e3, h1 _ q3, x4, y4, e4, h2 _ q4, x5, y5, e5, h3 _ q5, x6, y6, e6, h4 _ q6, hbad _ _ q7⟩

theorem bgObel {m : Nat} {X : Heap} (hX : ∀ (b : Nat) (o : AObj), X[b]? = some o → OBel m o) : ∀ (b : Nat) (o : AObj), (Bg 9 ++ X)[b]? = some o → OBel m o := fun b o hb => by
  rw [List.getElem?_append] at hb
  split at hb
  · simp only [Bg, List.getElem?_replicate] at hb
    split at hb
    · cases hb; trivial
    · cases hb
  · exact hX _ o hb

/-- Only one block behind the package's variables is kept. -/
theorem wk_one {A : Amb} {ρ ρ2 : List AV} {X : Heap} {D : List Nat} {o : AObj} (i : Nat) (hi : X[i]? = some o) (hob : OBel 9 o) (hρ : ∀ (ι ι2 : Emb), ι2 9 = ι (9 + i) → ∀ l, VRL ι ρ l → VRL ι2 ρ2 l) :
    Wk A (Bg 9) ⟨ρ, Bg 9 ++ X, D⟩ ⟨ρ2, Bg 9 ++ [o], D⟩ := by
  have h9 : (Bg 9).length = 9 := rfl
  refine Wk.rename (fun _ => 9 + i) (by simp) (fun b hb => ?_) (fun b h1 h2 => ?_) (fun b b' h1 h2 h3 h4 _ => ?_) (bgObel fun b o' hb => ?_) fun ι ι2 _ h2 l hl => ?_
  · rw [List.getElem?_append_left hb, List.getElem?_append_left hb]
  · simp only [List.length_append, List.length_singleton, h9] at h1 h2
    have e : b = 9 := by omega
    subst e
    refine ⟨by rw [h9]; omega, ?_⟩
    rw [List.getElem?_append_right (by omega), List.getElem?_append_right (by rw [h9]; omega), h9]
    simp [hi]
  · simp only [List.length_append, List.length_singleton, h9] at h1 h2 h3 h4
    omega
  · cases b with
    | zero => simp at hb; subst hb; exact hob
    | succ b => simp at hb
  · exact hρ ι ι2 (h2 9 (by omega) (by simp [h9])) l hl

/-- None is kept. -/
theorem wk_none {A : Amb} {ρ ρ2 : List AV} {X : Heap} {D : List Nat} (hρ : ∀ (ι ι2 : Emb), ∀ l, VRL ι ρ l → VRL ι2 ρ2 l) : Wk A (Bg 9) ⟨ρ, Bg 9 ++ X, D⟩ ⟨ρ2, Bg 9, D⟩ := by
  have h9 : (Bg 9).length = 9 := rfl
  refine Wk.rename (fun _ => 0) (Nat.le_refl _) (fun b hb => ?_) (fun b h1 h2 => by omega) (fun b b' h1 h2 h3 h4 _ => by omega) (fun b o hb => ?_) fun ι ι2 _ _ l hl => hρ ι ι2 l hl
  · rw [List.getElem?_append_left hb]
  · have := bgObel (m := (Bg 9).length) (X := []) (fun b o h => by simp at h) b o (by simpa using hb)
    exact this

theorem newCells_len (n h l g : Int) : (newCells n h l g).length = 7 := rfl

theorem row_plain (n : Int) (x : Int × Int × Int) : (row54 n x).length = 7 ∧ (row54 n x).all plainV = true := ⟨rfl, rfl⟩

/-- The first fit of the list. -/
theorem soft_first {n h l g : Int} {ι : Emb} {hp : Array Obj} {lo : Ad.Loc} (ho : OR ι hp lo (.cells (newCells n h l g) 7 true 35)) : OR ι hp lo (vec54 n [(h, l, g)]) := by
  refine OR.soften (n := 1) (by omega) (fun i _ => row_plain n _) rfl (fun i j a hi ha => ?_) ho
  have e : i = 0 := by omega
  subst e
  simp only [List.getD_cons_zero, row54] at ha
  simp only [newCells, Nat.zero_mul, Nat.zero_add]
  match j, ha with
  | 0, ha => cases ha; exact ⟨_, rfl, fun v hv => by simp only [VR] at hv ⊢; exact hv.1⟩
  | 1, ha => cases ha; exact ⟨_, rfl, fun v hv => by simp only [VR] at hv ⊢; exact hv⟩
  | 2, ha => cases ha; exact ⟨_, rfl, fun v hv => by simp only [VR] at hv ⊢; exact hv⟩
  | 3, ha => cases ha; exact ⟨_, rfl, fun v hv => by simp only [VR] at hv ⊢; exact hv.1⟩
  | 4, ha => cases ha; exact ⟨_, rfl, fun v hv => by simp only [VR] at hv ⊢; exact hv⟩
  | 5, ha => cases ha; exact ⟨_, rfl, fun v hv => by simp only [VR] at hv ⊢; exact hv.1⟩
  | 6, ha => cases ha; exact ⟨_, rfl, fun v hv => by simp only [VR] at hv ⊢; exact hv.1⟩
  | j + 7, ha => simp at ha

theorem flat_congr {r r' : Nat → List AV} : ∀ {n : Nat}, (∀ i, i < n → r i = r' i) → flat n r = flat n r'
  | 0, _ => rfl
  | n + 1, h => by rw [flat_succ, flat_succ, flat_congr fun i hi => h i (by omega), h n (by omega)]

theorem OR.rows {ι : Emb} {hp : Array Obj} {lo : Ad.Loc} {n es ty : Nat} {r r' : Nat → List AV} (h : ∀ i, i < n → r i = r' i) (ho : OR ι hp lo (.vec n r es ty)) : OR ι hp lo (.vec n r' es ty) := by
  obtain ⟨⟨h1, h2⟩, h3⟩ := ho
  refine ⟨⟨h1, fun i hi => by rw [← h i hi]; exact h2 i hi⟩, ?_⟩
  rw [flat_congr h] at h3
  exact h3

/-- One fit more. -/
theorem soft_next {n h l g : Int} {L : List (Int × Int × Int)} {ι : Emb} {hp : Array Obj} {lo : Ad.Loc}
    (ho : OR ι hp lo (.vec (L.length + 1) (fun r => mrgL (decide (r < L.length)) (row54 n (L.getD r (0, 0, 0))) (newCells n h l g)) 7 35)) : OR ι hp lo (vec54 n (L ++ [(h, l, g)])) := by
  have e : vec54 n (L ++ [(h, l, g)]) = .vec (L.length + 1) (fun i => row54 n ((L ++ [(h, l, g)]).getD i (0, 0, 0))) 7 35 := by simp [vec54]
  rw [e]
  refine OR.rows (fun i hi => ?_) ho
  by_cases hlt : i < L.length
  · have e1 : (L ++ [(h, l, g)]).getD i (0, 0, 0) = L.getD i (0, 0, 0) := by
      simp only [List.getD_eq_getElem?_getD]
      rw [List.getElem?_append_left hlt]
    rw [e1, decide_eq_true hlt]
    rfl
  · have e1 : (L ++ [(h, l, g)]).getD i (0, 0, 0) = (h, l, g) := by
      have : i = L.length := by omega
      subst this
      simp [List.getD_eq_getElem?_getD]
    rw [e1, decide_eq_false hlt]
    rfl

theorem brK_t {β : Type} {t f : Option β} : brK true t f = t := rfl
theorem brK_f {β : Type} {t f : Option β} : brK false t f = f := rfl

theorem same_to {ι ι2 : Emb} {n a b : Int} {k : IntKind} (v : Value) (hv : VR ι (.rng k n a b) v) : VR ι2 (.rng k n a b) v := by simp only [VR] at hv ⊢; exact hv

section
variable {A : Amb} (hT : Tab A) (hG : prog.globals.size ≤ A.G)
include hT hG

theorem round4_next (n h l g : Int) (L : List (Int × Int × Int)) (hg : 5 ≤ g ∧ g ≤ 12) (hv1 : inV n 4 h = true) (hv2 : inV n l g = true) (hlen : L.length + 1 < 2 ^ 31) :
    SEB prog A (Bg 9) round4 (stS n L (.rng .i64 h 5 12) (.rng .i64 l 0 9) (.rng .i64 g 5 13)) .normal (stS n (step54 n h l g L) (.rng .i64 h 5 12) (.rng .i64 l 0 9) (.rng .i64 (g + 1) 5 13)) := by
  have hgr : ∀ {ι ι2 : Emb} (v : Value), VR ι (.rng .i64 (g + 1) 6 14) v → VR ι2 (.rng .i64 (g + 1) 5 13) v := fun v hv => rng_to (fun _ _ => by omega) v hv
  by_cases hL : L = []
  · subst hL
    have hk := r4nil n h l g
    rw [decide_eq_true hg.2, hv1, hv2, Bool.and_self, brK_t, brK_t] at hk
    cases ho : okF n 4 h l g with
    | true =>
      rw [ho, brK_t] at hk
      have e : step54 n h l g [] = [(h, l, g)] := by simp [step54, ho]
      rw [e]
      refine (SEB.of_K (D := []) hmix hnum (pBas_ok hT hG) (.none _) hk).wk_out ?_
      refine Wk.trans Wk.clean (Wk.trans (wk_one (o := .cells (newCells n h l g) 7 true 35) (ρ2 := rho n (.sslice 9 0 1) (.rng .i64 h 5 12) (.rng .i64 l 0 9) (.rng .i64 (g + 1) 5 13)) 2 rfl rfl ?_) (Wk.last (Nat.le_refl _) (fun _ _ _ => soft_first) (fun h => h) (fun h => h)))
      intro ι ι2 h9 vs hv
      exact rho_to (slice_sslice (by omega) h9) same_to same_to hgr vs hv
    | false =>
      rw [ho, brK_f] at hk
      have e : step54 n h l g [] = [] := by simp [step54, ho]
      rw [e]
      refine (SEB.of_K (D := []) hmix hnum (pBas_ok hT hG) (.none _) hk).wk_out ?_
      refine Wk.trans Wk.clean (wk_none ?_)
      intro ι ι2 vs hv
      exact rho_to (fun v hv => show VR ι2 (.slice none 0 0) v by simp only [VR] at hv ⊢; exact hv) same_to same_to hgr vs hv
  · have hne : L.isEmpty = false := by cases L with | nil => exact (hL rfl).elim | cons => rfl
    have es : ∀ h l g, stS n L h l g = ⟨rho n (.sslice 9 0 L.length) h l g, Bg 9 ++ [vec54 n L], []⟩ := fun h l g => by simp only [stS, outS, heapS, hne]; rfl
    rw [es]
    have hk := r4vec n h l g L.length (fun i => L.getD i (0, 0, 0))
    rw [decide_eq_true hg.2, hv1, hv2, Bool.and_self, brK_t, brK_t] at hk
    cases ho : okF n 4 h l g with
    | true =>
      rw [ho, brK_t, decide_eq_true ⟨hlen, rfl⟩, brK_t] at hk
      have e : step54 n h l g L = L ++ [(h, l, g)] := by simp [step54, ho]
      have e2 : stS n (L ++ [(h, l, g)]) (.rng .i64 h 5 12) (.rng .i64 l 0 9) (.rng .i64 (g + 1) 5 13) = ⟨rho n (.sslice 9 0 (L.length + 1)) (.rng .i64 h 5 12) (.rng .i64 l 0 9) (.rng .i64 (g + 1) 5 13), Bg 9 ++ [vec54 n (L ++ [(h, l, g)])], []⟩ := by
        have : (L ++ [(h, l, g)]).isEmpty = false := by cases L <;> rfl
        simp only [stS, outS, heapS, this, List.length_append, List.length_singleton]; rfl
      rw [e, e2]
      refine (SEB.of_K (D := []) hmix hnum (pBas_ok hT hG) (.none _) hk).wk_out ?_
      refine Wk.trans Wk.clean (Wk.trans (wk_one (ρ2 := rho n (.sslice 9 0 (L.length + 1)) (.rng .i64 h 5 12) (.rng .i64 l 0 9) (.rng .i64 (g + 1) 5 13)) 3 rfl trivial ?_) (Wk.last (Nat.le_refl _) (fun _ _ _ => soft_next) (fun h => h) (fun h => h)))
      intro ι ι2 h9 vs hv
      exact rho_to (sslice_to h9) same_to same_to hgr vs hv
    | false =>
      rw [ho, brK_f] at hk
      have e : step54 n h l g L = L := by simp [step54, ho]
      rw [e, es]
      refine (SEB.of_K (D := []) hmix hnum (pBas_ok hT hG) (.none _) hk).wk_out ?_
      refine Wk.trans Wk.clean (wk_one 0 rfl trivial ?_)
      intro ι ι2 h9 vs hv
      exact rho_to (sslice_to h9) same_to same_to hgr vs hv

end

section
variable {A : Amb} (hT : Tab A) (hG : prog.globals.size ≤ A.G)

def fstC : Code → Code | .seq a _ => a | _ => .skip
def sndC : Code → Code | .seq _ b => b | _ => .skip
def unBlk : Code → Code | .block _ c => c | _ => .skip

noncomputable def r8c : Code := fstC (unBlk (fstC (sndC round2)))
noncomputable def r7c : Code := sndC (sndC round2)
noncomputable def hd2 : Code := fstC round2
noncomputable def r5c : Code := fstC (unBlk (fstC (sndC round0)))
noncomputable def r4c : Code := sndC (sndC round0)
noncomputable def hd0 : Code := fstC round0
theorem round2_eq : round2 = .seq hd2 (.seq (.block 3 (.seq r8c (.block 4 (.loop round4)))) r7c) := by kernel_rfl
theorem round0_eq : round0 = .seq hd0 (.seq (.block 1 (.seq r5c (.block 2 (.loop round2)))) r4c) := by kernel_rfl
noncomputable def r0c : Code := fstC code54
noncomputable def r1c : Code := fstC (sndC code54)
noncomputable def r2c : Code := fstC (fstC (sndC (sndC code54)))
noncomputable def rEc : Code := sndC (sndC (sndC code54))
theorem code54_eq : code54 = .seq r0c (.seq r1c (.seq (.seq r2c (.block 0 (.loop round0))) rEc)) := by kernel_rfl

theorem kr8 (n : Int) (o h l g : AV) (B : Heap) : execK prog (runK prog pBas 60) noBps r8c (rho n o h l g) B (keepK live54) = some (.normal, rho n o h l (.int .i64 5), B, []) := by kernel_rfl
theorem kr7 (n l : Int) (o h g : AV) (B : Heap) : execK prog (runK prog pBas 60) noBps r7c (rho n o h (.rng .i64 l 0 9) g) B (keepK live54) = some (.normal, rho n o h (.rng .i64 (l + 1) 1 10) g, B, []) := by kernel_rfl
theorem khd2 (n l : Int) (o h g : AV) (B : Heap) : execK prog (runK prog pBas 60) noBps hd2 (rho n o h (.rng .i64 l 0 10) g) B (keepK live54) = brK (decide (l < 10)) (some (.normal, rho n o h (.rng .i64 l 0 10) g, B, [])) (some (.exit 2, rho n o h (.rng .i64 l 0 10) g, B, [])) := by kernel_rfl
theorem kr5 (n : Int) (o h l g : AV) (B : Heap) : execK prog (runK prog pBas 60) noBps r5c (rho n o h l g) B (keepK live54) = some (.normal, rho n o h (.int .i64 0) g, B, []) := by kernel_rfl
theorem kr4 (n h : Int) (o l g : AV) (B : Heap) : execK prog (runK prog pBas 60) noBps r4c (rho n o (.rng .i64 h 5 12) l g) B (keepK live54) = some (.normal, rho n o (.rng .i64 (h + 1) 6 13) l g, B, []) := by kernel_rfl
theorem khd0 (n h : Int) (o l g : AV) (B : Heap) : execK prog (runK prog pBas 60) noBps hd0 (rho n o (.rng .i64 h 5 13) l g) B (keepK live54) = brK (decide (h ≤ 12)) (some (.normal, rho n o (.rng .i64 h 5 13) l g, B, [])) (some (.exit 0, rho n o (.rng .i64 h 5 13) l g, B, [])) := by kernel_rfl

def run4 (n h l : Int) : Nat → Int → List (Int × Int × Int) → List (Int × Int × Int)
  | 0, _, L => L
  | k + 1, g, L => run4 n h l k (g + 1) (step54 n h l g L)
def run2 (n h : Int) : Nat → Int → List (Int × Int × Int) → List (Int × Int × Int)
  | 0, _, L => L
  | k + 1, l, L => run2 n h k (l + 1) (run4 n h l 8 5 L)
def run0 (n : Int) : Nat → Int → List (Int × Int × Int) → List (Int × Int × Int)
  | 0, _, L => L
  | k + 1, h, L => run0 n k (h + 1) (run2 n h 10 0 L)

theorem step54_len (n h l g : Int) (L : List (Int × Int × Int)) : (step54 n h l g L).length ≤ L.length + 1 := by
  simp only [step54]; split
  · simp
  · omega
theorem run4_len (n h l : Int) : ∀ (k : Nat) (g : Int) (L : List (Int × Int × Int)), (run4 n h l k g L).length ≤ L.length + k
  | 0, _, _ => by simp [run4]
  | k + 1, g, L => by
    have := run4_len n h l k (g + 1) (step54 n h l g L)
    have := step54_len n h l g L
    simp only [run4]; omega
theorem run2_len (n h : Int) : ∀ (k : Nat) (l : Int) (L : List (Int × Int × Int)), (run2 n h k l L).length ≤ L.length + 8 * k
  | 0, _, _ => by simp [run2]
  | k + 1, l, L => by
    have := run2_len n h k (l + 1) (run4 n h l 8 5 L)
    have := run4_len n h l 8 5 L
    simp only [run2]; omega
theorem run0_len (n : Int) : ∀ (k : Nat) (h : Int) (L : List (Int × Int × Int)), (run0 n k h L).length ≤ L.length + 80 * k
  | 0, _, _ => by simp [run0]
  | k + 1, h, L => by
    have := run0_len n k (h + 1) (run2 n h 10 0 L)
    have := run2_len n h 10 0 L
    simp only [run0]; omega

theorem self_to {ι : Emb} {a : AV} (v : Value) (h : VR ι a v) : VR ι a v := h
theorem bad_to {ι : Emb} {a : AV} (v : Value) (_ : VR ι a v) : VR ι .bad v := by simp only [VR]
theorem int_to {ι : Emb} {k : IntKind} {n a b : Int} (h : a ≤ n ∧ n ≤ b) (v : Value) (hv : VR ι (.int k n) v) : VR ι (.rng k n a b) v := by
  simp only [VR] at hv ⊢; exact ⟨hv, h⟩

theorem wk_st {n : Int} {L : List (Int × Int × Int)} {h l g h' l' g' : AV} (h2 : ∀ (ι : Emb) v, VR ι h v → VR ι h' v) (h3 : ∀ (ι : Emb) v, VR ι l v → VR ι l' v) (h4 : ∀ (ι : Emb) v, VR ι g v → VR ι g' v) :
    Wk A (Bg 9) (stS n L h l g) (stS n L h' l' g') := Wk.temps fun ι vs hv => rho_to self_to (h2 ι) (h3 ι) (h4 ι) vs hv

include hT hG
theorem loop4 (n h l : Int) (hn : 1 ≤ n ∧ n ≤ 100000) (hh : 5 ≤ h ∧ h ≤ 12) (hl : 0 ≤ l ∧ l ≤ 9) : ∀ (k : Nat) (g : Int) (L : List (Int × Int × Int)), g + k = 13 → 5 ≤ g → L.length + k < 2 ^ 31 →
    SEB prog A (Bg 9) (.loop round4) (stS n L (.rng .i64 h 5 12) (.rng .i64 l 0 9) (.rng .i64 g 5 13)) (.exit 4) (stS n (run4 n h l k g L) (.rng .i64 h 5 12) (.rng .i64 l 0 9) .bad)
  | 0, g, L, hk, hg, hlen => by
    refine (SEB.loop_exit ?_ (by simp)).wk_out (wk_st (g := .rng .i64 g 5 13) (fun _ => self_to) (fun _ => self_to) (fun _ => bad_to))
    by_cases hL : L = []
    · subst hL
      have hk := r4nil n h l g
      rw [decide_eq_false (by omega), brK_f] at hk
      exact SEB.of_K (D := []) hmix hnum (pBas_ok hT hG) (.none _) hk
    · have hne : L.isEmpty = false := by cases L with | nil => exact (hL rfl).elim | cons => rfl
      have es : ∀ h l g, stS n L h l g = ⟨rho n (.sslice 9 0 L.length) h l g, Bg 9 ++ [vec54 n L], []⟩ := fun h l g => by simp only [stS, outS, heapS, hne]; rfl
      have hk := r4vec n h l g L.length (fun i => L.getD i (0, 0, 0))
      rw [decide_eq_false (by omega), brK_f] at hk
      simp only [run4]
      rw [es]
      exact SEB.of_K (D := []) hmix hnum (pBas_ok hT hG) (.none _) hk
  | k + 1, g, L, hk, hg, hlen => by
    have := step54_len n h l g L
    exact SEB.loop_next (round4_next hT hG n h l g L (by omega) (decide_eq_true ⟨hn, by omega, by omega⟩) (decide_eq_true ⟨hn, hl, by omega⟩) (by omega)) (loop4 n h l hn hh hl k (g + 1) _ (by omega) (by omega) (by omega))

theorem round2_next (n h l : Int) (hn : 1 ≤ n ∧ n ≤ 100000) (hh : 5 ≤ h ∧ h ≤ 12) (hl : 0 ≤ l ∧ l ≤ 9) (L : List (Int × Int × Int)) (hlen : L.length + 8 < 2 ^ 31) :
    SEB prog A (Bg 9) round2 (stS n L (.rng .i64 h 5 12) (.rng .i64 l 0 10) .bad) .normal (stS n (run4 n h l 8 5 L) (.rng .i64 h 5 12) (.rng .i64 (l + 1) 0 10) .bad) := by
  rw [round2_eq]
  have hk := khd2 n l (outS L) (.rng .i64 h 5 12) .bad (heapS n L)
  rw [decide_eq_true (by omega), brK_t] at hk
  have s1 := SEB.of_K (B0 := Bg 9) (D := []) hmix hnum (pBas_ok hT hG) (.none _) hk
  have s2 := SEB.of_K (B0 := Bg 9) (D := []) hmix hnum (pBas_ok hT hG) (.none _) (kr8 n (outS L) (.rng .i64 h 5 12) (.rng .i64 l 0 10) .bad (heapS n L))
  have s3 := SEB.wk_in (wk_st (A := A) (n := n) (L := L) (l := .rng .i64 l 0 10) (g := .int .i64 5) (fun _ => self_to) (fun _ => rng_to fun _ _ => by omega) (fun _ => int_to (by omega))) (loop4 hT hG n h l hn hh hl 8 5 L (by omega) (by omega) hlen)
  have s4 := SEB.of_K (B0 := Bg 9) (D := []) hmix hnum (pBas_ok hT hG) (.none _) (kr7 n l (outS (run4 n h l 8 5 L)) (.rng .i64 h 5 12) .bad (heapS n (run4 n h l 8 5 L)))
  exact (SEB.seq s1 (SEB.seq (SEB.block_other (SEB.seq s2 (SEB.block_exit s3)) (by simp)) s4)).wk_out (wk_st (fun _ => self_to) (fun _ => rng_to fun _ _ => by omega) (fun _ => self_to))

theorem loop2 (n h : Int) (hn : 1 ≤ n ∧ n ≤ 100000) (hh : 5 ≤ h ∧ h ≤ 12) : ∀ (k : Nat) (l : Int) (L : List (Int × Int × Int)), l + k = 10 → 0 ≤ l → L.length + 8 * k < 2 ^ 31 →
    SEB prog A (Bg 9) (.loop round2) (stS n L (.rng .i64 h 5 12) (.rng .i64 l 0 10) .bad) (.exit 2) (stS n (run2 n h k l L) (.rng .i64 h 5 12) .bad .bad)
  | 0, l, L, hk, hl, hlen => by
    refine (SEB.loop_exit ?_ (by simp)).wk_out (wk_st (l := .rng .i64 l 0 10) (fun _ => self_to) (fun _ => bad_to) (fun _ => self_to))
    rw [round2_eq]
    have hk := khd2 n l (outS L) (.rng .i64 h 5 12) .bad (heapS n L)
    rw [decide_eq_false (by omega), brK_f] at hk
    exact SEB.seq_exit (SEB.of_K (D := []) hmix hnum (pBas_ok hT hG) (.none _) hk) (by simp)
  | k + 1, l, L, hk, hl, hlen => by
    have := run4_len n h l 8 5 L
    exact SEB.loop_next (round2_next hT hG n h l hn hh (by omega) L (by omega)) (loop2 n h hn hh k (l + 1) _ (by omega) (by omega) (by omega))

theorem round0_next (n h : Int) (hn : 1 ≤ n ∧ n ≤ 100000) (hh : 5 ≤ h ∧ h ≤ 12) (L : List (Int × Int × Int)) (hlen : L.length + 80 < 2 ^ 31) :
    SEB prog A (Bg 9) round0 (stS n L (.rng .i64 h 5 13) .bad .bad) .normal (stS n (run2 n h 10 0 L) (.rng .i64 (h + 1) 5 13) .bad .bad) := by
  rw [round0_eq]
  have hk := khd0 n h (outS L) .bad .bad (heapS n L)
  rw [decide_eq_true (by omega), brK_t] at hk
  have s1 := SEB.of_K (B0 := Bg 9) (D := []) hmix hnum (pBas_ok hT hG) (.none _) hk
  have s2 := SEB.of_K (B0 := Bg 9) (D := []) hmix hnum (pBas_ok hT hG) (.none _) (kr5 n (outS L) (.rng .i64 h 5 13) .bad .bad (heapS n L))
  have s3 := SEB.wk_in (wk_st (A := A) (n := n) (L := L) (h := .rng .i64 h 5 13) (l := .int .i64 0) (fun _ => rng_to fun _ _ => by omega) (fun _ => int_to (by omega)) (fun _ => self_to)) (loop2 hT hG n h hn hh 10 0 L (by omega) (by omega) hlen)
  have s4 := SEB.of_K (B0 := Bg 9) (D := []) hmix hnum (pBas_ok hT hG) (.none _) (kr4 n h (outS (run2 n h 10 0 L)) .bad .bad (heapS n (run2 n h 10 0 L)))
  exact (SEB.seq s1 (SEB.seq (SEB.block_other (SEB.seq s2 (SEB.block_exit s3)) (by simp)) s4)).wk_out (wk_st (fun _ => rng_to fun _ _ => by omega) (fun _ => self_to) (fun _ => self_to))

theorem loop0 (n : Int) (hn : 1 ≤ n ∧ n ≤ 100000) : ∀ (k : Nat) (h : Int) (L : List (Int × Int × Int)), h + k = 13 → 5 ≤ h → L.length + 80 * k < 2 ^ 31 →
    SEB prog A (Bg 9) (.loop round0) (stS n L (.rng .i64 h 5 13) .bad .bad) (.exit 0) (stS n (run0 n k h L) .bad .bad .bad)
  | 0, h, L, hk, hl, hlen => by
    refine (SEB.loop_exit ?_ (by simp)).wk_out (wk_st (h := .rng .i64 h 5 13) (fun _ => bad_to) (fun _ => self_to) (fun _ => self_to))
    rw [round0_eq]
    have hk := khd0 n h (outS L) .bad .bad (heapS n L)
    rw [decide_eq_false (by omega), brK_f] at hk
    exact SEB.seq_exit (SEB.of_K (D := []) hmix hnum (pBas_ok hT hG) (.none _) hk) (by simp)
  | k + 1, h, L, hk, hl, hlen => by
    have := run2_len n h 10 0 L
    exact SEB.loop_next (round0_next hT hG n h hn (by omega) L (by omega)) (loop0 n hn k (h + 1) _ (by omega) (by omega) (by omega))

/-- The list of the right fits of the basic hole. -/
def list54 (n : Int) : List (Int × Int × Int) := run0 n 8 5 []
omit hT hG in
theorem list54_len (n : Int) : (list54 n).length ≤ 640 := by
  by_cases hle : (list54 n).length ≤ 640
  · exact hle
  · have := run0_len n 8 5 []; simp only [list54] at hle; simp at this; omega

omit hT hG in
theorem kr0 (n : Int) : execK prog (runK prog pBas 60) noBps r0c ([.rng .i64 n 1 100000] ++ List.replicate 34 aundef) (Bg 9) (keepK [0]) = some (.normal, rho n .bad .bad .bad .bad, Bg 9, []) := by kernel_rfl
omit hT hG in
theorem kr1 (n : Int) : execK prog (runK prog pBas 60) noBps r1c (rho n .bad .bad .bad .bad) (Bg 9) (keepK live54) = some (.normal, rho n (.slice none 0 0) .bad .bad .bad, Bg 9, []) := by kernel_rfl
omit hT hG in
theorem kr2 (n : Int) (o h l g : AV) (B : Heap) : execK prog (runK prog pBas 60) noBps r2c (rho n o h l g) B (keepK live54) = some (.normal, rho n o (.int .i64 5) l g, B, []) := by kernel_rfl
omit hT hG in
theorem krE0 (n : Int) (h l g : AV) (B : Heap) : execK prog (runK prog pBas 60) noBps rEc (rho n (.slice none 0 0) h l g) B (keepK [2]) = some (.ret, [.bad, .bad, .slice none 0 0] ++ List.replicate 32 .bad, B, []) := by kernel_rfl
omit hT hG in
theorem krE1 (n : Int) (k : Nat) (h l g : AV) (B : Heap) : execK prog (runK prog pBas 60) noBps rEc (rho n (.sslice 9 0 k) h l g) B (keepK [2]) = some (.ret, [.bad, .bad, .sslice 9 0 k] ++ List.replicate 32 .bad, B, []) := by kernel_rfl
omit hT hG in
theorem krE (n : Int) (L : List (Int × Int × Int)) (h l g : AV) (B : Heap) : execK prog (runK prog pBas 60) noBps rEc (rho n (outS L) h l g) B (keepK [2]) = some (.ret, [.bad, .bad, outS L] ++ List.replicate 32 .bad, B, []) := by
  simp only [outS]; cases L.isEmpty
  · exact krE1 n _ h l g B
  · exact krE0 n h l g B

theorem body54 (n : Int) (hn : 1 ≤ n ∧ n ≤ 100000) : SEB prog A (Bg 9) code54 ⟨[.rng .i64 n 1 100000] ++ List.replicate 34 aundef, Bg 9, []⟩ .ret
    ⟨[.bad, .bad, outS (list54 n)] ++ List.replicate 32 .bad, heapS n (list54 n), []⟩ := by
  rw [code54_eq]
  have s0 := SEB.of_K (B0 := Bg 9) (D := []) hmix hnum (pBas_ok hT hG) (.none _) (kr0 n)
  have s1 := SEB.of_K (B0 := Bg 9) (D := []) hmix hnum (pBas_ok hT hG) (.none _) (kr1 n)
  have s2 := SEB.of_K (B0 := Bg 9) (D := []) hmix hnum (pBas_ok hT hG) (.none _) (kr2 n (.slice none 0 0) .bad .bad .bad (Bg 9))
  have s3 := SEB.wk_in (s := stS n [] (.int .i64 5) .bad .bad) (wk_st (A := A) (n := n) (L := []) (h := .int .i64 5) (fun _ => int_to (by omega)) (fun _ => self_to) (fun _ => self_to)) (loop0 hT hG n hn 8 5 [] (by omega) (by omega) (by simp))
  have s4 := SEB.of_K (B0 := Bg 9) (D := []) hmix hnum (pBas_ok hT hG) (.none _) (krE n (list54 n) .bad .bad .bad (heapS n (list54 n)))
  exact SEB.seq s0 (SEB.seq s1 (SEB.seq (SEB.seq s2 (SEB.block_exit s3)) s4))

def isBg (B : Heap) : Bool := B.length == 9 && B.all fun o => match o with | .dead => true | _ => false
omit hT hG in
theorem isBg_eq {B : Heap} (h : isBg B = true) : B = Bg 9 := by
  simp only [isBg, Bool.and_eq_true, beq_iff_eq, List.all_eq_true] at h
  refine List.eq_replicate_iff.2 ⟨h.1, fun o ho => ?_⟩
  have := h.2 o ho
  cases o with
  | dead => rfl
  | _ => cases this
def in1 (n : Int) : Bool := decide (1 ≤ n ∧ n ≤ 100000)
/-- The list, on the heap of the package's variables. -/
def sBas0 : List AV → Heap → Tr (AV × Heap × List Nat)
  | [a], B => match snum a with
    | some (.i64, n) => if isBg B then .br (in1 n) (.leaf (outS (list54 n), heapS n (list54 n), [])) .fail else .fail
    | _ => .fail
  | _, _ => .fail
/-- The list, in any heap. -/
def sBas : List AV → Heap → Tr (AV × Heap × List Nat)
  | [a], B => match snum a with
    | some (.i64, n) => if 9 ≤ B.length then .br (in1 n) (.br (list54 n).isEmpty (.leaf (.slice none 0 0, B, [])) (.leaf (.sslice B.length 0 (list54 n).length, B ++ [vec54 n (list54 n)], []))) .fail else .fail
    | _ => .fail
  | _, _ => .fail

omit hT hG in
theorem snum_weak {a : AV} {n lo hi : Int} (h : snum a = some (.i64, n)) (hb : lo ≤ n ∧ n ≤ hi) (ι : Emb) (xs : List Value) (hx : VRL ι [a] xs) : VRL ι [.rng .i64 n lo hi] xs := by
  simp only [VRL] at hx ⊢
  obtain ⟨x, y, e, h1, h2⟩ := hx
  refine ⟨x, y, e, ?_, h2⟩
  cases a with
  | int k m => simp only [snum] at h; cases h; simp only [VR] at h1 ⊢; exact ⟨h1, hb⟩
  | sint k m => simp only [snum] at h; cases h; simp only [VR] at h1 ⊢; exact ⟨h1, hb⟩
  | rng k m p q => simp only [snum] at h; cases h; simp only [VR] at h1 ⊢; exact ⟨h1.1, hb⟩
  | _ => cases h

omit hT hG in
theorem heapS_frame (n : Int) (L : List (Int × Int × Int)) : AFr (Bg 9) (heapS n L) [] := by
  simp only [heapS]; cases L.isEmpty
  · exact .push _ _
  · exact .refl _

omit hT hG in
theorem size9 : prog.globals.size = 9 := by kernel_rfl
omit hT hG in
theorem body54_eq : f54.body = some code54 := by kernel_rfl

theorem pBas0_ok : PrimOK prog A (pBas.addh 54 sBas0) := by
  refine PrimOK.body (pBas_ok hT hG) func54 body54_eq fun args B v B' D h => ?_
  unfold sBas0 at h
  split at h
  · split at h
    · rename_i a n hs
      split at h
      · rename_i hb
        obtain ⟨hc, hv⟩ := Tr.br_get h
        simp only [Tr.get, Option.some.injEq, Prod.mk.injEq] at hv
        obtain ⟨rfl, rfl, rfl⟩ := hv
        rw [isBg_eq hb]
        have hn : 1 ≤ n ∧ n ≤ 100000 := of_decide_eq_true hc
        exact ⟨heapS_frame n _, [.rng .i64 n 1 100000], .ret, ⟨[AV.bad, AV.bad, outS (list54 n)] ++ List.replicate 32 AV.bad, heapS n (list54 n), []⟩, [outS (list54 n)], fun ι xs hx => snum_weak hs hn ι xs hx,
          by rw [ntmps54]; exact body54 hT hG n hn, fun id => by simp, by cases (list54 n).isEmpty <;> rfl, rfl, rfl, rfl⟩
      · cases h
    · cases h
  · cases h

def pLst : Prims := pBas.addh 54 sBas

theorem pLst_ok : PrimOK prog A pLst := by
  refine PrimOK.fresh hmix hnum (pBas0_ok hT hG) (pBas_ok hT hG) func54 rfl fun args B v B' D h => ?_
  unfold sBas at h
  split at h
  · split at h
    · rename_i a n hs
      split at h
      · rename_i hb
        obtain ⟨hc, hv⟩ := Tr.br_get h
        have hn : 1 ≤ n ∧ n ≤ 100000 := of_decide_eq_true hc
        have hca : Ca prog (pBas.addh 54 sBas0) 54 [.rng .i64 n 1 100000] (Bg 9) (outS (list54 n), heapS n (list54 n), []) := by
          refine ⟨1, fun m hm => ?_⟩
          have h54 : (pBas.addh 54 sBas0).fn 54 = some sBas0 := rfl
          cases m with
          | zero => omega
          | succ m =>
            show callF prog (pBas.addh 54 sBas0) (run prog (pBas.addh 54 sBas0) m) 54 [.rng .i64 n 1 100000] (Bg 9) = _
            simp only [callF, h54, sBas0, snum, show isBg (Bg 9) = true from rfl, if_true, hc, Tr.get]
        cases hL : (list54 n).isEmpty with
        | true =>
          rw [hL] at hv
          simp only [Tr.get, Option.some.injEq, Prod.mk.injEq] at hv
          obtain ⟨rfl, rfl, rfl⟩ := hv
          refine ⟨[.rng .i64 n 1 100000], .slice none 0 0, [], fun ι xs hx => snum_weak hs hn ι xs hx, hb, ?_, rfl, rfl, by simp, rfl, rfl, by simp, rfl⟩
          rw [size9]
          have e : (outS (list54 n), heapS n (list54 n), ([] : List Nat)) = (.slice none 0 0, Bg 9 ++ [], []) := by simp only [outS, heapS, hL]; simp
          rw [← e]; exact hca
        | false =>
          rw [hL] at hv
          simp only [Tr.get, Option.some.injEq, Prod.mk.injEq] at hv
          obtain ⟨rfl, rfl, rfl⟩ := hv
          refine ⟨[.rng .i64 n 1 100000], .sslice 9 0 (list54 n).length, [vec54 n (list54 n)], fun ι xs hx => snum_weak hs hn ι xs hx, hb, ?_, rfl, rfl, ?_, rfl, ?_, rfl, rfl⟩
          · rw [size9]
            have e : (outS (list54 n), heapS n (list54 n), ([] : List Nat)) = (.sslice 9 0 (list54 n).length, Bg 9 ++ [vec54 n (list54 n)], []) := by simp only [outS, heapS, hL]; simp
            rw [← e]; exact hca
          · intro x o hx
            cases x with
            | zero => simp at hx; subst hx; rfl
            | succ x => simp at hx
          · simp [ren, shOut]
      · cases h
    · cases h
  · cases h
end
end Go.Proofs.Tryz
