/- The lexer's program: the contract of Normal. -/
import Derived.Test.YtfjgehlpjppggaaGreatDoorRef
import Derived.Test.YtfjgehlpjppggaaGreatDoorScans
import Derived.Test.YtfjgehlpjppggaaGreatDoorNorm
import Derived.Test.YtfjgehlpjppggaaGreatDoorCov

namespace Go.Proofs.Tryz
open Go.Ad

/-- What Normal returns. -/
def normR (s : List UInt8) : List UInt8 × Int × Int :=
  bif (scanR s).2.2 != 0 then ([], (scanR s).2.1, (scanR s).2.2) else ((joinR (scanR s).1).1, 0, (joinR (scanR s).1).2)
def sqN : SP := ⟨[.str, .int .i64, .int .i64], dd8⟩
def TNm : List Lf → Tr (SP × List Lf)
  | [.s s] => .leaf (sqN, [.s (normR s).1, .i (normR s).2.1, .i (normR s).2.2])
  | _ => .fail
noncomputable def treeF (n : Nat) (f : Nat → List AV) (L : List Tok) (a e : Int) : Option (List Lf) :=
  brK (e != 0) (some [.s [], .i a, .i e]) (brK (propB (n = n ∧ isToks n f)) (some [.s (joinR L).1, .i 0, .i (joinR L).2]) none)
theorem run21 (s : List UInt8) : (runK prog pR 60).call 21 [.sstr s] (Bg 8) (finQ sqN 8 []) = treeF (scanR s).1.length (rowsT (scanR s).1) (toksOf (scanR s).1.length (rowsT (scanR s).1)) (scanR s).2.1 (scanR s).2.2 := by kernel_rfl

noncomputable def pNm : Prims := pR.addh 21 (liftG 8 (funQ spT 8 [] TNm))
theorem pNm_ok {A : Amb} (hT : Tab A) (hG : prog.globals.size ≤ A.G) : PrimOK prog A pNm := by
  refine (pR_ok hT hG).addl gsz func21 (by kernel_rfl) (funQ_ok hmix hnum rfl fun ls sq l h => ?_)
  unfold TNm at h
  split at h
  · rename_i s
    cases h
    refine ⟨⟨.inr rfl, .inr rfl, .inr rfl, .inr rfl, .inr rfl, .inr rfl, .inr rfl, .inr rfl, trivial⟩, rfl, pR, 60, _, pR_ok hT hG, (run21 s).trans ?_, fun _ _ => .refl⟩
    unfold treeF normR
    rw [propB_true (show _ ∧ _ from ⟨rfl, isToks_rows (scanR_szs s).1⟩), toksOf_rows]
    cases (scanR s).2.2 != 0 <;> rfl
  · cases h
end Go.Proofs.Tryz

/- The lexer: the loop of LexerNormal, and its plain law. -/
namespace Go.Proofs.Tryz
open Go.Ad

noncomputable def code8 : Code := f8.body.getD .skip
noncomputable def body8 : Code := unLoop (findB 0 code8)
def sp8 : SP := ⟨[.drop, .drop, .drop, .list 8, .drop, .drop, .drop, .drop, .list 9] ++ dr 63 ++ [.int .i64, .int .i64] ++ dr 28, dd8 ++ [.vec 3 52, .vec 3 52]⟩
def lf8 (n m : Nat) (c i : Int) (f g : Nat → List AV) : List Lf := [.n n, .n m, .i c, .i i, .n n, .r f, .n m, .r g]
def tree8 (n m : Nat) (c i : Int) (t u : Tok) (f g : Nat → List AV) : Option (AEx × List Lf) :=
  brK (decide (i < c)) (brK (decide (0 ≤ i ∧ i < (n : Int))) (brK (decide (0 + i.toNat < n)) (brK (decide (0 ≤ i ∧ i < (m : Int))) (brK (decide (0 + i.toNat < m)) (brK (t.1 != u.1) (some (.ret, lf8 n m c i f g))
    (brK (decide (0 ≤ i ∧ i < (n : Int))) (brK (decide (0 + i.toNat < n)) (brK (decide (0 ≤ i ∧ i < (m : Int))) (brK (decide (0 + i.toNat < m)) (brK (!(t.2.1 == u.2.1)) (some (.ret, lf8 n m c i f g)) (some (.normal, lf8 n m c (W (i + 1)) f g))) none) none) none) none)) none) none) none) none)
    (some (.exit 0, lf8 n m c i f g))
theorem round8 (n m : Nat) (c i : Int) (r q : Nat → Tok) : execK prog (runK prog pNm 60) noBps body8 (sp8.rho (lf8 n m c i (fun i => rowT (r i)) (fun i => rowT (q i)))) (sp8.heap (lf8 n m c i (fun i => rowT (r i)) (fun i => rowT (q i)))) (nrmP (fun _ => sp8) 10 []) =
    tree8 n m c i (r (0 + i.toNat)) (q (0 + i.toNat)) (fun i => rowT (r i)) (fun i => rowT (q i)) := by kernel_rfl

theorem tree8_eq {n i : Nat} {t u : Tok} {f g : Nat → List AV} (hi : i < n) (hn : n ≤ 5000) (h : ktT t = ktT u) : tree8 n n n i t u f g = some (.normal, lf8 n n n ((i + 1 : Nat) : Int) f g) := by
  unfold tree8
  have e2 : W ((i : Int) + 1) = ((i + 1 : Nat) : Int) := by rw [W, wrap64 (by omega) (by omega)]; omega
  simp only [ktT, Prod.mk.injEq] at h
  rw [e2, h.1, h.2, Int.toNat_natCast, decide_eq_true (show (i : Int) < n by omega), decide_eq_true (show 0 ≤ (i : Int) ∧ (i : Int) < n by omega), decide_eq_true (show 0 + i < n by omega)]
  simp [brK]

theorem getD_kt {L M : List Tok} (h : L.map ktT = M.map ktT) (i : Nat) : ktT (L.getD i tok0) = ktT (M.getD i tok0) := by
  have h1 := congrArg (fun l => l[i]?) h
  simp only [List.getElem?_map] at h1
  rw [List.getD_eq_getElem?_getD, List.getD_eq_getElem?_getD]
  cases h2 : L[i]? <;> cases h3 : M[i]? <;> rw [h2, h3] at h1 <;> simp at h1 ⊢
  exact h1

section
variable {A : Amb} (hT : Tab A) (hG : prog.globals.size ≤ A.G)
include hT hG

theorem loop8 (L M : List Tok) (hL : L.length ≤ 4097) (hk : L.map ktT = M.map ktT) {Bb : Heap} (hB : Bb.length = 10) :
    SEB prog A Bb (.loop body8) ⟨sp8.rho (lf8 L.length L.length L.length 0 (rowsT L) (rowsT M)), sp8.heap (lf8 L.length L.length L.length 0 (rowsT L) (rowsT M)), []⟩ (.exit 0) ⟨sp8.rho (lf8 L.length L.length L.length L.length (rowsT L) (rowsT M)), sp8.heap (lf8 L.length L.length L.length L.length (rowsT L) (rowsT M)), []⟩ := by
  have hp := pNm_ok hT hG
  have hok : okD 10 [] 0 sp8.h = true := rfl
  refine SEB.while (fun i : Nat => i ≤ L.length) (fun i => L.length - i) (fun i => ⟨sp8.rho (lf8 L.length L.length L.length i (rowsT L) (rowsT M)), sp8.heap (lf8 L.length L.length L.length i (rowsT L) (rowsT M)), []⟩) (fun _ => (.exit 0, ⟨sp8.rho (lf8 L.length L.length L.length L.length (rowsT L) (rowsT M)), sp8.heap (lf8 L.length L.length L.length L.length (rowsT L) (rowsT M)), []⟩)) (fun i h1 => ?_) 0 (Nat.zero_le _)
  have hr := round8 L.length L.length L.length i (fun i => L.getD i tok0) (fun i => M.getD i tok0)
  rw [Int.toNat_natCast, Nat.zero_add] at hr
  by_cases hi : i < L.length
  · left
    rw [tree8_eq hi (by omega) (getD_kt hk i)] at hr
    exact ⟨i + 1, by omega, by omega, rfl, SEB.of_KP (e := .normal) (sp := fun _ => sp8) hmix hnum hp (.none _) hB hr hok⟩
  · right
    have e : i = L.length := by omega
    subst e
    unfold tree8 at hr
    rw [decide_eq_false (show ¬ ((L.length : Nat) : Int) < (L.length : Int) by omega)] at hr
    exact ⟨by simp, SEB.of_KP (e := .exit 0) (sp := fun _ => sp8) hmix hnum hp (.none _) hB hr hok⟩
end

def cond8 (n m : Nat) (c i : Int) (n' m' : Nat) (f g : Nat → List AV) (L M : List Tok) : Prop := m = n ∧ c = n ∧ i = 0 ∧ n' = n ∧ m' = n ∧ f = rowsT L ∧ g = rowsT M ∧ L.map ktT = M.map ktT ∧ n ≤ 4097
noncomputable def hook8 : Blk := hookP sp8 10 [] fun
  | [.n n, .n m, .i c, .i i, .n n', .r f, .n m', .r g] => .br (propB (cond8 n m c i n' m' f g (toksOf n f) (toksOf n g))) (.leaf (.normal, sp8, lf8 n n n n f g)) .fail
  | _ => .fail
noncomputable def pL8 : Prims := pNm.addb 8 0 hook8

theorem pL8_ok {A : Amb} (hT : Tab A) (hG : prog.globals.size ≤ A.G) : PrimOK prog A pL8 := by
  refine (pNm_ok hT hG).addb func8 (show f8.body = some code8 by kernel_rfl) (body := .loop body8) (by kernel_rfl) (hookP_ok (by rfl) fun ls e sq l h => ?_)
  split at h
  · rename_i n m c i n' f m' g
    obtain ⟨hc, hv⟩ := Tr.br1 h
    clear h
    obtain ⟨h1, h2, h3, h4, h5, h6, h7, h8, h9⟩ := propB_eq hc
    have h1 := h1.symm
    have h4 := h4.symm
    have h5 := h5.symm
    subst h1 h2 h3 h4 h5
    obtain ⟨L, hL⟩ : ∃ L, L = toksOf n f := ⟨_, rfl⟩
    obtain ⟨M, hM⟩ : ∃ M, M = toksOf n g := ⟨_, rfl⟩
    have hn : n = L.length := by rw [hL]; simp [toksOf]
    rw [← hL] at h6 h8
    rw [← hM] at h7 h8
    subst hn h6 h7
    cases hv
    exact ⟨⟨.inr rfl, .inr rfl, .inr rfl, .inr rfl, .inr rfl, .inr rfl, .inr rfl, .inr rfl, .inr rfl, .inr rfl, trivial⟩, fun Bb hB => SEB.block_exit (id := 0) (loop8 hT hG L M h9 h8 hB)⟩
  · cases h

/-! The plain law. -/
theorem joinT_congr : ∀ (L M : List Tok) (b : Option Int), L.map ktT = M.map ktT → joinT b L = joinT b M
  | [], [], _, _ => rfl
  | [], _ :: _, _, h => by cases h
  | _ :: _, [], _, h => by cases h
  | t :: r, u :: q, b, h => by
    simp only [List.map_cons, List.cons.injEq, ktT, Prod.mk.injEq] at h
    obtain ⟨⟨h1, h2⟩, h3⟩ := h
    simp only [joinT, h1, h2]
    rw [joinT_congr r q _ h3]
theorem joinT_end : ∀ (L : List Tok) (b : Option Int) (n : Int), joinT b (L ++ [(3, [], n)]) = joinT b L
  | [], b, n => by
    cases b with
    | none => rfl
    | some k => simp [joinT, sepJ, apartB]
  | t :: r, b, n => by simp only [List.cons_append, joinT]; rw [joinT_end r]
theorem errJ_end : ∀ (L : List Tok) (n : Int), (∀ t, t ∈ L → Gd t) → errJ (L ++ [(3, [], n)]) = 0
  | [], n, _ => rfl
  | t :: r, n, h => by
    have he : (r ++ [((3 : Int), ([] : List UInt8), n)]).isEmpty = false := by cases r <;> rfl
    have hf : formE t.1 t.2.1 false = 0 := by
      unfold formE
      rcases h t (List.mem_cons_self ..) with ⟨h1, h2⟩ | ⟨h1, h2⟩ | ⟨h1, h2, h3⟩
      · rw [h1]; simpa using h2
      · rw [h1]; simpa using h2
      · rw [h1]; simp [h2, h3]
    simp only [List.cons_append, errJ, he, hf]
    exact errJ_end r n fun u hu => h u (List.mem_cons_of_mem _ hu)

theorem joinR_good {L : List Tok} (n : Int) (h : ∀ t, t ∈ L → Gd t) (hl : L.length ≤ 4096) (hj : (joinT none L).length ≤ 4096) : joinR (L ++ [(3, [], n)]) = (joinT none L, 0) := by
  unfold joinR
  rw [decide_eq_true (show (L ++ [((3 : Int), ([] : List UInt8), n)]).length ≤ 4097 by simp; omega), cond_true, joinL_eq, errJ_end L n h, catJ_eq, joinT_end]
  simp [hj]

theorem scan_inr {s : List UInt8} (hb : scB s = false) : scanS s s.length 0 [] = .inr (scL s) := by
  unfold scB at hb
  unfold scL
  cases h : scanS s s.length 0 [] with
  | inl x => rw [h] at hb; cases hb
  | inr L => rfl

theorem norm_facts (s : List UInt8) (hs : s.length ≤ 4096) (hb : scB s = false) :
    scanR s = (scT s, 0, 0) ∧ normR s = (joinT none (scL s), 0, 0) ∧ (joinT none (scL s)).length ≤ s.length ∧
      scanR (joinT none (scL s)) = (scT (joinT none (scL s)), 0, 0) ∧ (scT s).map ktT = (scT (joinT none (scL s))).map ktT ∧ normR (joinT none (scL s)) = (joinT none (scL s), 0, 0) ∧ (scT s).length ≤ 4097 := by
  have hsc := scan_inr hb
  have hl := scL_len s
  have hg := scanS_good s s.length 0 [] (scL s) (fun t h => by cases h) hsc
  have hjl : (joinT none (scL s)).length ≤ s.length := by
    obtain ⟨M, h1, _, h3⟩ := joinT_len s s.length 0 [] (scL s) (Nat.zero_le _) hsc
    rw [List.nil_append] at h1
    rw [h1]
    exact h3 none fun k h => by cases h
  have h1 : scanR s = (scT s, 0, 0) := by simp [scanR, hs, hb]
  have h2 : normR s = (joinT none (scL s), 0, 0) := by
    unfold normR
    rw [h1]
    simp only [scT]
    rw [joinR_good _ hg (by omega) (by omega)]; rfl
  generalize hJ : joinT none (scL s) = J at *
  obtain ⟨M, m1, m2⟩ := scanJ J (scL s) none 0 [] hg (by rw [List.drop_zero, hJ])
  rw [Nat.sub_zero, List.nil_append] at m1
  have jb : scB J = false := by unfold scB; rw [m1]
  have jl : scL J = M := by unfold scL; rw [m1]
  have jg := scanS_good J J.length 0 [] M (fun t h => by cases h) m1
  have h4 : scanR J = (scT J, 0, 0) := by simp [scanR, show J.length ≤ 4096 by omega, jb]
  have hML : M.length = (scL s).length := by simpa using congrArg List.length m2
  have jj : joinT none M = J := by rw [← hJ]; exact joinT_congr _ _ _ m2
  refine ⟨h1, h2, hjl, h4, ?_, ?_, by simp [scT]; omega⟩
  · simp only [scT, jl, List.map_append, m2]; rfl
  · unfold normR
    rw [h4]
    simp only [scT, jl]
    rw [joinR_good _ jg (by omega) (by rw [jj]; omega), jj]; rfl
end Go.Proofs.Tryz
