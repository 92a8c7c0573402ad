/- The lexer's laws: a list of tokens among the arguments. -/
import Derived.Test.YtfjgehlpjppggaaGreatDoorRef
import Derived.Test.YtfjgehlpjppggaaGreatDoorAdPat
import Derived.Deep.Slices
import Derived.Test.YtfjgehlpjppggaaGreatDoorOpen

namespace Go.Proofs.Tryz
open Go.Ad Go.Deep Go.ChangeShapes

set_option maxRecDepth 100000 in
theorem open_toks {H : Type} {enc : TypeId × Value → H} {W : World} {b0 : Nat} {v : Value} {d : DataW H} {ps : List MemPlace} (hval : Value.okWide prog W .any b0 27 v) (h : DataW.Trod enc prog W 0 (fun _ => true) true 27 v d ps)
    (hw : (d.weights prog 27).all (· ≤ reachBytes) = true) :
    (∃ (L : List Tok) (l : Option Ad.Loc), VR (iotaB 8 l) (.sslice 8 0 L.length) v ∧ (∀ l', l = some l' → l'.c < W.heap.size ∧ OR (iotaB 8 l) W.heap l' (.vec L.length (rowsT L) 3 roT)) ∧ ∀ t, t ∈ L → szOK t.2.1 = true) ∨
    ∃ l : Ad.Loc, VR (iotaB 8 (some l)) (.slice (some (8, 0)) 0 0) v ∧ l.c < W.heap.size := by
  obtain ⟨a0, len0, cap0, rfl⟩ := Go.WideShapes.okWide_slice underlying27 hval
  obtain ⟨fuel, hf⟩ := h
  rcases open_slice underlying27 hf with ⟨hc, _⟩ | ⟨a, len, cap, m, n, D, Pl, hc, hb, hl, hm, hmm, hx, hel⟩
  · left
    simp [Value.cells] at hc
    obtain ⟨rfl, rfl, rfl⟩ := hc
    exact ⟨[], none, by simp [VR], fun l' h => by (cases h), fun t h => by (cases h)⟩
  simp [Value.cells] at hc
  obtain ⟨rfl, rfl, rfl⟩ := hc
  rw [if_pos rfl] at hmm
  subst hmm
  obtain ⟨hd1, hd2⟩ := Prod.mk.inj hx
  subst hd1
  -- the place
  have hok : Cell.ok prog W .any b0 27 (.slice (some a) len0 m) := by
    simpa only [Value.okWide, Cell.okWide, underlying27] using hval
  simp only [Cell.ok, underlying27] at hok
  obtain ⟨_, _, _, hspot, row, cells, hsh, _⟩ := hok
  obtain ⟨c, off, spot⟩ := a
  simp only at hspot
  subst hspot
  have hcell : ∃ arr e fz, W.heap[c]? = some (.cells arr e fz) := by
    unfold World.shape? at hsh
    split at hsh
    · rename_i arr e fz hq; exact ⟨arr, e, fz, hq⟩
    · cases hsh
  obtain ⟨arr, e, fz, hh⟩ := hcell
  have hlt : c < W.heap.size := (Array.getElem?_eq_some_iff.1 hh).1
  by_cases h0 : len0 = 0
  · right
    subst h0
    refine ⟨⟨c, off, off + m * 3, 3⟩, ?_, hlt⟩
    simp only [VR]
    exact ⟨⟨c, off, off + m * 3, 3⟩, m, off, by simp [iotaB], Nat.le_refl _, Nat.zero_le _, by simp, Nat.le_refl _, Nat.le_refl _, rfl⟩
  left
  have hq0 : ∀ k, W.cell? ⟨c, k, none⟩ = arr[k]? := fun k => by simp [World.cell?, hh]
  have each : ∀ i, i < m → ∃ q : Tok, arr[off + (i * 3 + 0)]? = some (.int .i64 q.1) ∧ (∃ b : ByteArray, b.data.toList = q.2.1 ∧ arr[off + (i * 3 + 1)]? = some (.string b)) ∧ arr[off + (i * 3 + 2)]? = some (.int .i64 q.2.2) ∧
      D i = .agg [.lit (.int .i64 q.1), .lit (.string q.2.1), .lit (.int .i64 q.2.2)] := by
    intro i hi
    obtain ⟨cs', h1, h2⟩ := hel i hi
    rw [show prog.cellsOf 52 = 3 by kernel_rfl] at h1
    obtain ⟨_, hlen, hce⟩ := World.cells?_some h1
    obtain ⟨xs, k, hk, hxy, _, hxl, hfd⟩ := DataW.trod_struct underlying52 h2
    match xs, hxl, cs', hlen with
    | [y0, y1, y2], _, [v0, v1, v2], _ =>
      have g0 := hfd 0 _ rfl
      have g1 := hfd 1 _ rfl
      have g2 := hfd 2 _ rfl
      simp [show prog.cellsOf 3 = 1 by kernel_rfl, show prog.cellsOf 9 = 1 by kernel_rfl] at g0 g1 g2
      obtain ⟨n0, q0, rfl, _⟩ := DataW.trod_int underlying3 g0
      obtain ⟨b1, q1, rfl, _⟩ := DataW.trod_string underlying9 g1
      obtain ⟨n2, q2, rfl, _⟩ := DataW.trod_int underlying3 g2
      simp at q0 q1 q2
      subst q0 q1 q2
      have e0 := hce 0 (by omega)
      have e1 := hce 1 (by omega)
      have e2 := hce 2 (by omega)
      rw [Go.WideShapes.add_plain, Go.WideShapes.add_plain, hq0] at e0 e1 e2
      simp at e0 e1 e2
      refine ⟨(n0, b1.data.toList, n2), by simpa [Nat.add_assoc] using e0, ⟨b1, rfl, by simpa [Nat.add_assoc] using e1⟩, by simpa [Nat.add_assoc] using e2, ?_⟩
      simpa using (Prod.mk.inj hxy).1
  obtain ⟨q, hq⟩ := choose_lt each
  obtain ⟨L, hL⟩ : ∃ L, L = (List.range len0).map q := ⟨_, rfl⟩
  have hlen : L.length = len0 := by simp [hL]
  have hget : ∀ i, i < len0 → L.getD i (0, [], 0) = q i := fun i hi => by simp [hL, List.getD, hi]
  have hfit : off + m * 3 ≤ arr.size := by
    have hm0 : 0 < m := by omega
    obtain ⟨_, _, e2, _⟩ := hq (m - 1) (by omega)
    have := (Array.getElem?_eq_some_iff.1 e2).1
    omega
  refine ⟨L, some ⟨c, off, arr.size, 3⟩, ?_, fun l' hl' => ?_, fun t ht => ?_⟩
  · simp only [VR]
    exact .inl ⟨by omega, ⟨c, off, arr.size, 3⟩, m, by simp [iotaB], by omega, by simpa using hfit, by simp [hlen]⟩
  · cases hl'
    refine ⟨hlt, OR.ofCells (by omega) (fun i hi => ?_) hh rfl (by omega) fun i j a hi hj => ?_⟩
    · exact ⟨rfl, rfl⟩
    · rw [hlen] at hi
      have e : rowsT L i = [.sint .i64 (q i).1, .sstr (q i).2.1, .sint .i64 (q i).2.2] := by
        rw [← hget i hi]; rfl
      rw [e] at hj
      obtain ⟨e0, ⟨b, hb1, e1⟩, e2, _⟩ := hq i (by omega)
      match j, hj with
      | 0, hj => cases hj; exact ⟨_, e0, by simp [VR]⟩
      | 1, hj => cases hj; exact ⟨_, e1, by simp only [VR]; exact ⟨b, hb1, rfl⟩⟩
      | 2, hj => cases hj; exact ⟨_, e2, by simp [VR]⟩
  · rw [hL] at ht
    obtain ⟨i, hi, rfl⟩ := List.mem_map.1 ht
    have hi' : i < len0 := List.mem_range.1 hi
    obtain ⟨_, _, _, e3⟩ := hq i (by omega)
    simp only [DataW.weights, underlying27, List.all_cons, List.all_append, Bool.and_eq_true] at hw
    have key : ∀ (l : List (DataW H)), (DataW.weightsAll prog 52 l).all (· ≤ reachBytes) = true → ∀ y, y ∈ l → (y.weights prog 52).all (· ≤ reachBytes) = true := by
      intro l
      induction l with
      | nil => intro _ y hy; cases hy
      | cons z r ih =>
        intro h y hy
        simp only [DataW.weightsAll, List.all_append, Bool.and_eq_true] at h
        rcases List.mem_cons.1 hy with rfl | hy
        · exact h.1
        · exact ih h.2 y hy
    have := key _ hw.2.1 (D i) (List.mem_map.2 ⟨i, hi, rfl⟩)
    rw [e3] at this
    simp [DataW.weights, underlying52, DataW.weightsEach] at this
    exact decide_eq_true (by unfold reachBytes at this; omega)
end Go.Proofs.Tryz

/- LexerJoins: Join returns the text or the error of the reference. -/
namespace Go.Proofs.Tryz
open Go.Ad

noncomputable def inner5 (n : Nat) (f : Nat → List AV) (L : List Tok) : Option Unit :=
  brK (propB (n = n ∧ isToks n f)) (brK (propB (n = n ∧ isToks n f)) (brK ((joinR L).1 == (joinR L).1) (brK ((joinR L).2 == (joinR L).2) (some ()) none) none) none) none

theorem joinsTree (n : Nat) (f : Nat → List AV) : (runK prog pR 60).call 5 [.sslice 8 0 n] (Bg 8 ++ [.vec n f 3 roT]) goodK =
    brK (decide ((n : Int) ≤ 100)) (inner5 n f (toksOf n f)) (brK (decide ((n : Int) > 4097)) (brK (!decide ((n : Int) ≤ 8192)) (some ()) (inner5 n f (toksOf n f))) (some ())) := by kernel_rfl

theorem joinsNone : (runK prog (withAwake pE) 60).call 5 [.slice (some (8, 0)) 0 0] (Bg 8 ++ [.dead]) goodK = some () := by kernel_rfl

theorem inner5_ok {L : List Tok} (h : ∀ t, t ∈ L → szOK t.2.1 = true) : inner5 L.length (rowsT L) (toksOf L.length (rowsT L)) = some () := by
  have h3 := isToks_rows h
  unfold inner5
  rw [propB_true (show _ ∧ _ from ⟨rfl, h3⟩)]
  simp [brK]

theorem lexerJoins {v : Value} (W : World) (hG : prog.globals.size ≤ W.heap.size) (hT : Tab (ambOf W))
    (hv : (∃ (L : List Tok) (l : Option Ad.Loc), VR (iotaB 8 l) (.sslice 8 0 L.length) v ∧ (∀ l', l = some l' → l'.c < W.heap.size ∧ OR (iotaB 8 l) W.heap l' (.vec L.length (rowsT L) 3 roT)) ∧ ∀ t, t ∈ L → szOK t.2.1 = true) ∨
      ∃ l : Ad.Loc, VR (iotaB 8 (some l)) (.slice (some (8, 0)) 0 0) v ∧ l.c < W.heap.size) :
    Calls prog 5 #[v] W fun e W' => e = .returned (.bool true) ∧ RowKit.Below W.heap.size W W' := by
  rcases hv with ⟨L, l, h1, h2, h3⟩ | ⟨l, h1, h2⟩
  · refine law_of_block (l := l) (args := [.sslice 8 0 L.length]) (o := .vec L.length (rowsT L) 3 roT) (n := 60) hmix hnum (pR_ok hT hG) hG ?_ rfl (fun l' hl => by rw [gsz]; exact h2 l' hl) _ ?_
    · rw [gsz, joinsTree, inner5_ok h3]
      cases decide ((L.length : Int) ≤ 100) <;> cases decide ((L.length : Int) > 4097) <;> cases decide ((L.length : Int) ≤ 8192) <;> rfl
    · rw [gsz]
      simp only [VRL]
      exact ⟨_, _, rfl, h1, rfl⟩
  · refine law_of_block (l := some l) (args := [.slice (some (8, 0)) 0 0]) (o := .dead) (n := 60) hmix hnum (withAwake_ok hT hG (pE_ok hT hG)) hG ?_ rfl (fun l' hl => by cases hl; exact ⟨h2, trivial⟩) _ ?_
    · rw [gsz]; exact joinsNone
    · rw [gsz]
      simp only [VRL]
      exact ⟨_, _, rfl, h1, rfl⟩
#print axioms lexerJoins
end Go.Proofs.Tryz
