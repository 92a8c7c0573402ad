/- The classes with some deviations: what the program's loops leave behind. -/
import Derived.Test.YtnkdndjhgoahgaaGreatDoorFind

namespace Go.Proofs.Tryz
open Go.Ad

abbrev cl0 : Cl := (false, 0, 0)
def run4 (n a b : Int) (h : Bool) (l : Int) : Nat → Int → List Cl → List Cl
  | 0, _, L => L
  | k + 1, g, L => run4 n a b h l k (g + 1) (stepL n a b L (h, l, g))
def run2 (n a b : Int) (h : Bool) : Nat → Int → List Cl → List Cl
  | 0, _, L => L
  | k + 1, l, L => run2 n a b h k (l + 1) (run4 n a b h l 8 5 L)
def runA (n a b : Int) : List Cl := run2 n a b true 10 0 (run2 n a b false 10 0 [])

theorem stepL_len (n a b : Int) (L : List Cl) (x : Cl) : (stepL n a b L x).length ≤ L.length + 1 := by
  unfold stepL; split <;> simp
theorem run4_len (n a b : Int) (h : Bool) (l : Int) : ∀ (k : Nat) (g : Int) (L : List Cl), (run4 n a b h l k g L).length ≤ L.length + k
  | 0, _, _ => Nat.le_refl _
  | k + 1, g, L => by
    have h1 := run4_len n a b h l k (g + 1) (stepL n a b L (h, l, g))
    have h2 := stepL_len n a b L (h, l, g)
    simp only [run4]; omega
theorem run2_len (n a b : Int) (h : Bool) : ∀ (k : Nat) (l : Int) (L : List Cl), (run2 n a b h k l L).length ≤ L.length + 8 * k
  | 0, _, _ => Nat.le_refl _
  | k + 1, l, L => by
    have h1 := run2_len n a b h k (l + 1) (run4 n a b h l 8 5 L)
    have h2 := run4_len n a b h l 8 5 L
    simp only [run2]; omega

theorem self_to {ι : Emb} {a : AV} (v : Value) (h : VR ι a v) : VR ι a v := h
theorem bad_to {ι : Emb} {a : AV} (v : Value) (_ : VR ι a v) : VR ι .bad v := by simp only [VR]
theorem int_to {ι : Emb} {k : IntKind} {n a b : Int} (h : a ≤ n ∧ n ≤ b) (v : Value) (hv : VR ι (.int k n) v) : VR ι (.rng k n a b) v := by
  simp only [VR] at hv ⊢; exact ⟨hv, h⟩
theorem rng_int {ι : Emb} {k : IntKind} {n a b : Int} (v : Value) (hv : VR ι (.rng k n a b) v) : VR ι (.int k n) v := by
  simp only [VR] at hv ⊢; exact hv.1
theorem bool_to {ι : Emb} {t : Bool} (v : Value) (hv : VR ι (.bool t) v) : VR ι (.sbool t) v := by
  simp only [VR] at hv ⊢; exact hv
theorem rng_to {ι ι2 : Emb} {k : IntKind} {n a b a' b' : Int} (h : a ≤ n → n ≤ b → a' ≤ n ∧ n ≤ b') (v : Value) (hv : VR ι (.rng k n a b) v) : VR ι2 (.rng k n a' b') v := by
  simp only [VR] at hv ⊢; exact ⟨hv.1, h hv.2.1 hv.2.2⟩

theorem rho75_wk {ι : Emb} {hi h li l g hi' h' li' l' g' : AV} (h0 : ∀ v, VR ι hi v → VR ι hi' v) (h1 : ∀ v, VR ι h v → VR ι h' v) (h2 : ∀ v, VR ι li v → VR ι li' v) (h3 : ∀ v, VR ι l v → VR ι l' v) (h4 : ∀ v, VR ι g v → VR ι g' v) (vs : List Value)
    (hv : VRL ι (rho75 hi h li l g) vs) : VRL ι (rho75 hi' h' li' l' g') vs := by
  unfold rho75 at hv ⊢
  simp only [List.cons_append, List.nil_append] at hv ⊢
  rw [VRL] at hv ⊢
  obtain ⟨x0, s0, e0, p0, hv⟩ := hv
  refine ⟨x0, s0, e0, p0, ?_⟩
  rw [VRL] at hv ⊢
  obtain ⟨x1, s1, e1, p1, hv⟩ := hv
  refine ⟨x1, s1, e1, p1, ?_⟩
  rw [VRL] at hv ⊢
  obtain ⟨x2, s2, e2, p2, hv⟩ := hv
  refine ⟨x2, s2, e2, p2, ?_⟩
  rw [VRL] at hv ⊢
  obtain ⟨x3, s3, e3, p3, hv⟩ := hv
  refine ⟨x3, s3, e3, h1 _ p3, ?_⟩
  rw [VRL] at hv ⊢
  obtain ⟨x4, s4, e4, p4, hv⟩ := hv
  refine ⟨x4, s4, e4, h3 _ p4, ?_⟩
  rw [VRL] at hv ⊢
  obtain ⟨x5, s5, e5, p5, hv⟩ := hv
  refine ⟨x5, s5, e5, h4 _ p5, ?_⟩
  rw [VRL] at hv ⊢
  obtain ⟨x6, s6, e6, p6, hv⟩ := hv
  refine ⟨x6, s6, e6, p6, ?_⟩
  rw [VRL] at hv ⊢
  obtain ⟨x7, s7, e7, p7, hv⟩ := hv
  refine ⟨x7, s7, e7, p7, ?_⟩
  rw [VRL] at hv ⊢
  obtain ⟨x8, s8, e8, p8, hv⟩ := hv
  refine ⟨x8, s8, e8, h0 _ p8, ?_⟩
  rw [VRL] at hv ⊢
  obtain ⟨x9, s9, e9, p9, hv⟩ := hv
  refine ⟨x9, s9, e9, p9, ?_⟩
  rw [VRL] at hv ⊢
  obtain ⟨x10, s10, e10, p10, hv⟩ := hv
  refine ⟨x10, s10, e10, p10, ?_⟩
  rw [VRL] at hv ⊢
  obtain ⟨x11, s11, e11, p11, hv⟩ := hv
  refine ⟨x11, s11, e11, p11, ?_⟩
  rw [VRL] at hv ⊢
  obtain ⟨x12, s12, e12, p12, hv⟩ := hv
  exact ⟨x12, s12, e12, h2 _ p12, hv⟩

noncomputable def heapF (n a b : Int) (L : List Cl) : Heap := heap75 n a b (outL 14 L) ++ blkL rowF cl0 3 23 L
noncomputable def stF (n a b : Int) (L : List Cl) (hi h li l g : AV) : St := ⟨rho75 hi h li l g, heapF n a b L, [11, 12]⟩

theorem wkF {A : Amb} {B0 : Heap} {n a b : Int} {L : List Cl} {hi h li l g hi' h' li' l' g' : AV} (h0 : ∀ (ι : Emb) v, VR ι hi v → VR ι hi' v) (h1 : ∀ (ι : Emb) v, VR ι h v → VR ι h' v) (h2 : ∀ (ι : Emb) v, VR ι li v → VR ι li' v) (h3 : ∀ (ι : Emb) v, VR ι l v → VR ι l' v) (h4 : ∀ (ι : Emb) v, VR ι g v → VR ι g' v) :
    Wk A B0 (stF n a b L hi h li l g) (stF n a b L hi' h' li' l' g') := Wk.temps fun ι vs hv => rho75_wk (h0 ι) (h1 ι) (h2 ι) (h3 ι) (h4 ι) vs hv

theorem rowF_tag (y : Cl) : tagL (rowF y) = some [.b, .n .i64, .n .i64] := rfl

theorem heap75_len (n a b : Int) (o : AV) : (heap75 n a b o).length = 14 := rfl

section
variable {A : Amb} (hT : Tab A) (hG : prog.globals.size ≤ A.G)
include hT hG

theorem q4_next (n a b k l g : Int) (h : Bool) (L : List Cl) {B0 : Heap} (hB : B0.length = 13) (hn : 1 ≤ n ∧ n ≤ 100000) (hl : 0 ≤ l ∧ l ≤ 9) (hg : 5 ≤ g ∧ g ≤ 12) (hlen : L.length + 1 < 2147483648) :
    SEB prog A B0 q4 (stF n a b L (.rng .i64 k 0 1) (.sbool h) (.rng .i64 l 0 9) (.rng .i64 l 0 9) (.rng .i64 g 5 12)) .normal
      (stF n a b (stepL n a b L (h, l, g)) (.rng .i64 k 0 1) (.sbool h) (.rng .i64 l 0 9) (.rng .i64 l 0 9) (.rng .i64 (g + 1) 5 13)) := by
  have hin : inCl n l g = true := decide_eq_true ⟨hn, hl, hg⟩
  match L, hlen with
  | [], _ =>
    have hk := k4nil n a b k l g h
    rw [hin, brT] at hk
    cases hh : hit n a b (h, l, g) with
    | false =>
      rw [hh, brF] at hk
      have e : stepL n a b [] (h, l, g) = [] := by simp [stepL, hh]
      rw [e]
      have := SEB.of_KN (B0 := B0) hmix hnum (pSym_ok hT hG) (.none _) hB hk
      simpa only [stF, heapF, outL, blkL, List.isEmpty_nil, if_true, List.append_nil] using this
    | true =>
      rw [hh, brT] at hk
      have e : stepL n a b [] (h, l, g) = [(h, l, g)] := by simp [stepL, hh]
      rw [e]
      have := (SEB.of_KN (B0 := B0) hmix hnum (pSym_ok hT hG) (.none _) hB hk).wk_out (Wk.push1 (f := rowF) (d := cl0) (x := (h, l, g)) (by rw [heap75_len, hB]; omega) rfl)
      simpa only [stF, heapF, outL, blkL, List.isEmpty_nil, List.isEmpty_cons, if_true, Bool.false_eq_true, if_false, List.append_nil, List.length_singleton] using this
  | y :: r, hlen =>
    have hk := k4vec n a b k l g h (y :: r).length (fun i => (y :: r).getD i cl0)
    rw [hin, brT] at hk
    cases hh : hit n a b (h, l, g) with
    | false =>
      rw [hh, brF] at hk
      have e : stepL n a b (y :: r) (h, l, g) = y :: r := by simp [stepL, hh]
      rw [e]
      exact SEB.of_KN (B0 := B0) hmix hnum (pSym_ok hT hG) (.none _) hB hk
    | true =>
      rw [hh, brT, decide_eq_true ⟨hlen, rfl⟩, brT] at hk
      have e : stepL n a b (y :: r) (h, l, g) = (y :: r) ++ [(h, l, g)] := by simp [stepL, hh]
      rw [e]
      have := (SEB.of_KN (B0 := B0) hmix hnum (pSym_ok hT hG) (.none _) hB hk).wk_out (Wk.push (f := rowF) (d := cl0) (L := y :: r) (x := (h, l, g)) (by rw [heap75_len, hB]; omega) rowF_tag rfl)
      have e2 : ((y :: r) ++ [(h, l, g)]).length = (y :: r).length + 1 := by simp
      unfold stF heapF outL blkL
      rw [e2]
      exact this

theorem loop4 (n a b k l : Int) (h : Bool) {B0 : Heap} (hB : B0.length = 13) (hn : 1 ≤ n ∧ n ≤ 100000) (hl : 0 ≤ l ∧ l ≤ 9) : ∀ (c : Nat) (g : Int) (L : List Cl), g + c = 13 → 5 ≤ g → L.length + c < 2147483648 →
    SEB prog A B0 (.loop q4) (stF n a b L (.rng .i64 k 0 1) (.sbool h) (.rng .i64 l 0 9) (.rng .i64 l 0 9) (.rng .i64 g 5 13)) (.exit 4) (stF n a b (run4 n a b h l c g L) (.rng .i64 k 0 1) (.sbool h) (.rng .i64 l 0 9) .bad .bad)
  | 0, g, L, hc, hg, hlen => by
    refine SEB.loop_exit ?_ (by simp)
    refine SEB.wk_in (wkF (fun _ => self_to) (fun _ => self_to) (fun _ => self_to) (fun _ => self_to) (fun _ => rng_to (a' := 13) (b' := 13) fun _ _ => by omega)) ?_
    exact SEB.of_K (D := [11, 12]) hmix hnum (pSym_ok hT hG) (.none _) (k4x g (.rng .i64 k 0 1) (.sbool h) (.rng .i64 l 0 9) (.rng .i64 l 0 9) (heapF n a b L))
  | c + 1, g, L, hc, hg, hlen => by
    refine SEB.loop_next (SEB.wk_in (wkF (fun _ => self_to) (fun _ => self_to) (fun _ => self_to) (fun _ => self_to) (fun _ => rng_to (a' := 5) (b' := 12) fun _ _ => by omega)) (q4_next hT hG n a b k l g h L hB hn hl (by omega) (by omega))) ?_
    exact loop4 n a b k l h hB hn hl c (g + 1) _ (by omega) (by omega) (by have := stepL_len n a b L (h, l, g); omega)

theorem q2_next (n a b k l : Int) (h : Bool) (L : List Cl) {B0 : Heap} (hB : B0.length = 13) (hn : 1 ≤ n ∧ n ≤ 100000) (hl : 0 ≤ l ∧ l ≤ 9) (hlen : L.length + 8 < 2147483648) :
    SEB prog A B0 q2 (stF n a b L (.rng .i64 k 0 1) (.sbool h) (.rng .i64 l 0 10) .bad .bad) .normal (stF n a b (run4 n a b h l 8 5 L) (.rng .i64 k 0 1) (.sbool h) (.rng .i64 (l + 1) 0 10) .bad .bad) := by
  have hp := pSym_ok hT hG
  rw [q2_eq]
  refine SEB.wk_in (wkF (fun _ => self_to) (fun _ => self_to) (fun _ => rng_to (a' := 0) (b' := 9) fun _ _ => by omega) (fun _ => self_to) (fun _ => self_to)) ?_
  have s1 := SEB.of_K (B0 := B0) (D := [11, 12]) hmix hnum hp (.none _) (k2h l (.rng .i64 k 0 1) (.sbool h) .bad .bad (heapF n a b L))
  have s2 := SEB.of_K (B0 := B0) (D := [11, 12]) hmix hnum hp (.none _) (k2c (.rng .i64 k 0 1) (.sbool h) (.rng .i64 l 0 9) .bad .bad (heapF n a b L))
  have s3 := SEB.of_K (B0 := B0) (D := [11, 12]) hmix hnum hp (.none _) (k2i l (.rng .i64 k 0 1) (.sbool h) .bad .bad (heapF n a b L))
  have s4 := SEB.of_K (B0 := B0) (D := [11, 12]) hmix hnum hp (.none _) (k2j (.rng .i64 k 0 1) (.sbool h) (.rng .i64 l 0 9) (.rng .i64 l 0 9) .bad (heapF n a b L))
  have s5 := SEB.wk_in (wkF (A := A) (n := n) (a := a) (b := b) (L := L) (fun _ => self_to) (fun _ => self_to) (fun _ => self_to) (fun _ => self_to) (fun _ => int_to (a := 5) (b := 13) (by omega))) (loop4 hT hG n a b k l h hB hn hl 8 5 L (by omega) (by omega) hlen)
  have s6 := SEB.of_K (B0 := B0) (D := [11, 12]) hmix hnum hp (.none _) (k2n l (.rng .i64 k 0 1) (.sbool h) .bad .bad (heapF n a b (run4 n a b h l 8 5 L)))
  exact (SEB.seq s1 (SEB.seq s2 (SEB.seq (SEB.block_other (SEB.seq s3 (SEB.seq s4 (SEB.block_exit s5))) (by simp)) s6))).wk_out (wkF (fun _ => self_to) (fun _ => self_to) (fun _ => rng_to fun _ _ => by omega) (fun _ => self_to) (fun _ => self_to))

theorem loop2 (n a b k : Int) (h : Bool) {B0 : Heap} (hB : B0.length = 13) (hn : 1 ≤ n ∧ n ≤ 100000) : ∀ (c : Nat) (l : Int) (L : List Cl), l + c = 10 → 0 ≤ l → L.length + 8 * c < 2147483648 →
    SEB prog A B0 (.loop q2) (stF n a b L (.rng .i64 k 0 1) (.sbool h) (.rng .i64 l 0 10) .bad .bad) (.exit 2) (stF n a b (run2 n a b h c l L) (.rng .i64 k 0 1) (.sbool h) .bad .bad .bad)
  | 0, l, L, hc, hl, hlen => by
    have hp := pSym_ok hT hG
    refine SEB.loop_exit ?_ (by simp)
    rw [q2_eq]
    refine SEB.wk_in (wkF (fun _ => self_to) (fun _ => self_to) (fun _ => rng_to (a' := 10) (b' := 10) fun _ _ => by omega) (fun _ => self_to) (fun _ => self_to)) ?_
    have s1 := SEB.of_K (B0 := B0) (D := [11, 12]) hmix hnum hp (.none _) (k2hx l (.rng .i64 k 0 1) (.sbool h) .bad .bad (heapF n a b L))
    have s2 := SEB.of_K (B0 := B0) (D := [11, 12]) hmix hnum hp (.none _) (k2cx (.rng .i64 k 0 1) (.sbool h) (.rng .i64 l 10 10) .bad .bad (heapF n a b L))
    exact SEB.seq s1 (SEB.seq_exit s2 (by simp))
  | c + 1, l, L, hc, hl, hlen =>
    SEB.loop_next (q2_next hT hG n a b k l h L hB hn (by omega) (by omega)) (loop2 n a b k h hB hn c (l + 1) _ (by omega) (by omega) (by have := run4_len n a b h l 8 5 L; omega))

theorem q0_next0 (n a b : Int) (L : List Cl) {B0 : Heap} (hB : B0.length = 13) (hn : 1 ≤ n ∧ n ≤ 100000) (hlen : L.length + 80 < 2147483648) :
    SEB prog A B0 q0 (stF n a b L (.int .i64 0) .bad .bad .bad .bad) .normal (stF n a b (run2 n a b false 10 0 L) (.int .i64 1) .bad .bad .bad .bad) := by
  have hp := pSym_ok hT hG
  rw [q0_eq]
  have s1 := SEB.of_K (B0 := B0) (D := [11, 12]) hmix hnum hp (.none _) (k0h0 .bad .bad .bad .bad (heapF n a b L))
  have s2 := SEB.of_K (B0 := B0) (D := [11, 12]) hmix hnum hp (.none _) (k0c (.int .i64 0) .bad .bad .bad .bad (heapF n a b L))
  have s3 := SEB.of_K (B0 := B0) (D := [11, 12]) hmix hnum hp (.none _) (k0i0 n a b .bad .bad .bad .bad (outL 14 L) (blkL rowF cl0 3 23 L))
  have s4 := SEB.of_K (B0 := B0) (D := [11, 12]) hmix hnum hp (.none _) (k0j (.int .i64 0) (.bool false) .bad .bad .bad (heapF n a b L))
  have s5 := SEB.wk_in (wkF (A := A) (n := n) (a := a) (b := b) (L := L) (fun _ => int_to (a := 0) (b := 1) (by omega)) (fun _ => bool_to) (fun _ => int_to (a := 0) (b := 10) (by omega)) (fun _ => self_to) (fun _ => self_to)) (loop2 hT hG n a b 0 false hB hn 10 0 L (by omega) (by omega) (by omega))
  have s6 := SEB.wk_in (wkF (A := A) (n := n) (a := a) (b := b) (L := run2 n a b false 10 0 L) (fun _ => rng_int (a := 0) (b := 1)) (fun _ => bad_to (a := .sbool false)) (fun _ => self_to) (fun _ => self_to) (fun _ => self_to)) (SEB.of_K (B0 := B0) (D := [11, 12]) hmix hnum hp (.none _) (k0n0 .bad .bad .bad .bad (heapF n a b (run2 n a b false 10 0 L))))
  exact SEB.seq s1 (SEB.seq s2 (SEB.seq (SEB.block_other (SEB.seq s3 (SEB.seq s4 (SEB.block_exit s5))) (by simp)) s6))

theorem q0_next1 (n a b : Int) (L : List Cl) {B0 : Heap} (hB : B0.length = 13) (hn : 1 ≤ n ∧ n ≤ 100000) (hlen : L.length + 80 < 2147483648) :
    SEB prog A B0 q0 (stF n a b L (.int .i64 1) .bad .bad .bad .bad) .normal (stF n a b (run2 n a b true 10 0 L) (.int .i64 2) .bad .bad .bad .bad) := by
  have hp := pSym_ok hT hG
  rw [q0_eq]
  have s1 := SEB.of_K (B0 := B0) (D := [11, 12]) hmix hnum hp (.none _) (k0h1 .bad .bad .bad .bad (heapF n a b L))
  have s2 := SEB.of_K (B0 := B0) (D := [11, 12]) hmix hnum hp (.none _) (k0c (.int .i64 1) .bad .bad .bad .bad (heapF n a b L))
  have s3 := SEB.of_K (B0 := B0) (D := [11, 12]) hmix hnum hp (.none _) (k0i1 n a b .bad .bad .bad .bad (outL 14 L) (blkL rowF cl0 3 23 L))
  have s4 := SEB.of_K (B0 := B0) (D := [11, 12]) hmix hnum hp (.none _) (k0j (.int .i64 1) (.bool true) .bad .bad .bad (heapF n a b L))
  have s5 := SEB.wk_in (wkF (A := A) (n := n) (a := a) (b := b) (L := L) (fun _ => int_to (a := 0) (b := 1) (by omega)) (fun _ => bool_to) (fun _ => int_to (a := 0) (b := 10) (by omega)) (fun _ => self_to) (fun _ => self_to)) (loop2 hT hG n a b 1 true hB hn 10 0 L (by omega) (by omega) (by omega))
  have s6 := SEB.wk_in (wkF (A := A) (n := n) (a := a) (b := b) (L := run2 n a b true 10 0 L) (fun _ => rng_int (a := 0) (b := 1)) (fun _ => bad_to (a := .sbool true)) (fun _ => self_to) (fun _ => self_to) (fun _ => self_to)) (SEB.of_K (B0 := B0) (D := [11, 12]) hmix hnum hp (.none _) (k0n1 .bad .bad .bad .bad (heapF n a b (run2 n a b true 10 0 L))))
  exact SEB.seq s1 (SEB.seq s2 (SEB.seq (SEB.block_other (SEB.seq s3 (SEB.seq s4 (SEB.block_exit s5))) (by simp)) s6))

theorem loop0 (n a b : Int) {B0 : Heap} (hB : B0.length = 13) (hn : 1 ≤ n ∧ n ≤ 100000) :
    SEB prog A B0 (.loop q0) (stF n a b [] (.int .i64 0) .bad .bad .bad .bad) (.exit 0) ⟨List.replicate 28 .bad, heapF n a b (runA n a b), [11, 12]⟩ := by
  have hp := pSym_ok hT hG
  have l1 := run2_len n a b false 10 0 []
  refine SEB.loop_next (q0_next0 hT hG n a b [] hB hn (by simp)) (SEB.loop_next (q0_next1 hT hG n a b _ hB hn (by simp only [List.length_nil] at l1; omega)) (SEB.loop_exit ?_ (by simp)))
  rw [q0_eq]
  have s1 := SEB.of_K (B0 := B0) (D := [11, 12]) hmix hnum hp (.none _) (k0h2 .bad .bad .bad .bad (heapF n a b (runA n a b)))
  have s2 := SEB.of_K (B0 := B0) (D := [11, 12]) hmix hnum hp (.none _) (k0cx (.int .i64 2) .bad .bad .bad .bad (heapF n a b (runA n a b)))
  exact SEB.seq s1 (SEB.seq_exit s2 (by simp))

/-- What the call of the loops leaves behind. -/
theorem body75 (n a b : Int) (hn : 1 ≤ n ∧ n ≤ 100000) : SEB prog A (heapL n a b (.slice none 0 0)) code75 ⟨args75 ++ List.replicate 27 aundef, heapL n a b (.slice none 0 0), []⟩ .normal
    ⟨List.replicate 28 .bad, heapL n a b (outL 13 (runA n a b)) ++ blkL rowF cl0 3 23 (runA n a b), [11, 12]⟩ := by
  rw [c75_eq]
  have s1 := SEB.wk_in (Wk.dirty (D := []) (D2 := [11, 12]) fun c hc => (by simp at hc)) (SEB.of_KN (B0 := heapL n a b (.slice none 0 0)) hmix hnum (pSym_ok hT hG) (.none _) rfl (kqa n a b))
  refine SEB.seq s1 (SEB.wk_out (SEB.block_exit (loop0 hT hG n a b rfl hn)) ?_)
  match hL : runA n a b with
  | [] => exact Wk.of_nrm rfl (kend0 n a b)
  | y :: r => exact Wk.of_nrm rfl (kend1 n a b (y :: r).length (fun i => (y :: r).getD i cl0))
end
end Go.Proofs.Tryz
