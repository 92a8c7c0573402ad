/- From a law's contract to its row: the wrap that hands on both what the listed variables hold and the world's shape. -/
import Derived.Test.YtnkdndjhgoahgaaGreatDoorAbPrim
import Derived.HandedShaped
import Derived.LaidLaws
import Derived.Below
import Derived.ProofKit
import Derived.Stop.Joined
namespace Go.Ab

theorem Quiet.below {w w' : World} (h : Quiet w w') : RowKit.Below w.heap.size w w' := ⟨h.os, h.tape, h.out, h.size, h.keep⟩

theorem heap_of_shaped {P : Program} {w : World} (h : w.ShapedOpen P) (hs : (decide (P.globals.size < (begin P (fun _ _ => 0) default).world.heap.size)) = true) : P.globals.size ≤ w.heap.size := by
  obtain ⟨o, _, h1, _⟩ := h.2 P.globals.size (Nat.le_refl _) (of_decide_eq_true hs)
  exact Nat.le_of_lt (Array.getElem?_eq_some_iff.1 h1).1

/-- What is fixed of the world in which a law is called: all of it. -/
def ambOf (w : World) : Amb := { G := w.heap.size, base := fun c => w.heap[c]? }

variable {H : Type} {enc : TypeId × Value → H}

theorem returnsInHanded_of_law {C : Checked} {os : Os} {f : FuncId} {fn : Func} {s : ChangeSpec} {conds : List PathCond} {apart fresh handsOn again : Bool} {laid : List (String × DataW Unit)}
    (own : ownKnob C.prog.godebug = none) (started : os.Started) (noInit : C.prog.inits.idxOf? f = none) (hfn : C.prog.funcs[f]? = some fn)
    (witness : ∃ (w : World) (tape : Tape) (i : Input), w.os = os ∧ (w.forCall tape i).Shaped C.prog ∧ i.vars = [] ∧ Input.okWide C.prog (w.forCall tape i) .any w.heap.size f i ∧
      ((s.pre enc C.prog fn conds apart (w.forCall tape i).memory i.args ∧ laidMetH C.prog laid (w.forCall tape i).memory) ∧ sizedMet enc C.prog fn (OpenSpec.ofChange s) apart (w.forCall tape i).memory i.args) ∧ ({} : Assume).holds C.prog (lone (Frame.enter C.prog f i.args .normal) [] (w.forCall tape i)))
    (contract : ∀ (W : World) (base : Nat) (args : Array Value) (ds gs : List (DataW H)) (before : List MemPlace),
      (∀ (j : Nat) t v, fn.params[j]? = some t → args[j]? = some v → Value.okWide C.prog W .any base t v) →
      DataW.Whole enc C.prog fn.params.toList s.vars apart W args.toList ds gs before →
      laidMetH C.prog laid W → W.ShapedOpen C.prog →
      Calls C.prog f args W fun e W' => ∃ v, e = .returned v ∧ s.post enc C.prog fn apart fresh handsOn again W args v W') :
    ReturnsInHanded {} C os f .any (fun w args => (s.pre enc C.prog fn conds apart w args ∧ laidMetH C.prog laid w) ∧ sizedMet enc C.prog fn (OpenSpec.ofChange s) apart w args) (s.post enc C.prog fn apart fresh handsOn again) := by
  refine returnsInHanded_of_calls own started noInit witness ?_
  intro w tape i _ hsh _ hok hpre hholds
  obtain ⟨_, _, _, fn', hfn', _, _, _, _, hval⟩ := hok
  have e : fn' = fn := Option.some.inj (hfn'.symm.trans hfn)
  subst e
  obtain ⟨⟨⟨ds, gs, before, hw, hc⟩, hx⟩, hz⟩ := hpre
  have hw' := DataW.Whole.of_heap (w' := w.forCall tape i) (by rfl) hw
  refine (contract (w.forCall tape i) w.heap.size i.args ds gs before hval hw' (laidMetH.of_heap (by rfl) hx) hsh).mono fun e W' ⟨v, he, hp⟩ => ?_
  subst he
  exact ChangeSpec.post_blind hp

/-! ### Laws that return true: what a run says -/

def good : ARes → Bool
  | some (.bool true, _, []) => true
  | _ => false

theorem good_eq {r : ARes} (h : good r = true) : ∃ B, r = some (.bool true, B, []) := by
  unfold good at h
  split at h
  · exact ⟨_, rfl⟩
  · cases h

theorem law_of_good {P : Program} {prims : Prims} (hmix : P.follows .mixedOrders = true) (hnum : NoNum P) {W : World} (hp : PrimOK P (ambOf W) prims) (hG : P.globals.size ≤ W.heap.size) {n : Nat} {f : FuncId}
    {args : List AV} (h : good ((run P prims n).call f args (Bg P.globals.size)) = true) (hb : belowL 0 args = true) (ι : Emb) (xs : Array Value) (hx : VRL ι args xs.toList) :
    Calls P f xs W fun e W' => e = .returned (.bool true) ∧ RowKit.Below W.heap.size W W' := by
  obtain ⟨B, e⟩ := good_eq h
  refine (calls_of_run hmix hnum hp hG e hb rfl ι W xs (fun _ _ => rfl) (Nat.le_refl _) hx).mono fun e w' ⟨v, h1, h2, h3⟩ => ?_
  simp only [VR] at h2
  exact ⟨by rw [h1, h2], h3.below⟩

/-- A number of which the ends are known. -/
def cell (k : IntKind) (n lo hi : Int) : AV := if lo = hi then .int k lo else .rng k n lo hi

theorem cell_VR (ι : Emb) {k : IntKind} {n lo hi : Int} (h1 : lo ≤ n) (h2 : n ≤ hi) : VR ι (cell k n lo hi) (.int k n) := by
  unfold cell
  split
  · rename_i h; simp only [VR]; congr 1; omega
  · simp only [VR]; exact ⟨trivial, h1, h2⟩

theorem cell_below (m : Nat) (k : IntKind) (n lo hi : Int) : below m (cell k n lo hi) = true := by
  unfold cell; split <;> rfl

/-- Do the intervals cover all from `lo` to `hi`? -/
def covers (lo hi : Int) : List (Int × Int) → Bool
  | [] => decide (hi < lo)
  | p :: l => decide (p.1 ≤ lo) && covers (p.2 + 1) hi l

theorem covers_sound : ∀ {l : List (Int × Int)} {lo hi a : Int}, covers lo hi l = true → lo ≤ a → a ≤ hi → ∃ p ∈ l, p.1 ≤ a ∧ a ≤ p.2
  | [], lo, hi, a, h, h1, h2 => by simp only [covers, decide_eq_true_eq] at h; omega
  | p :: l, lo, hi, a, h, h1, h2 => by
    simp only [covers, Bool.and_eq_true, decide_eq_true_eq] at h
    by_cases hp : a ≤ p.2
    · exact ⟨p, List.mem_cons_self, by omega, hp⟩
    · obtain ⟨q, hq, h3⟩ := covers_sound h.2 (by omega) h2
      exact ⟨q, List.mem_cons_of_mem _ hq, h3⟩

#print axioms returnsInHanded_of_law
#print axioms law_of_good
end Go.Ab
