/- From a run of the evaluator on nothing but the package's variables to a contract of the machine; and such a function as a known one. -/
import Derived.Test.YtmenhnnkibpidaaGreatDoorAdSound
import Derived.Test.YtmenhnnkibpidaaGreatDoorAdK
namespace Go.Ad

def iotaG (G : Nat) : Emb := fun g => if g < G then some ⟨g, 0, 0, 0⟩ else none
def Bg (G : Nat) : Heap := List.replicate G .dead

theorem Bg_length (G : Nat) : (Bg G).length = G := by simp [Bg]

section
variable {P : Program} {A : Amb}

theorem simG {w : World} (G : Nat) (hamb : ∀ c, c < A.G → w.heap[c]? = A.base c) (hle : A.G ≤ w.heap.size) (hG : G ≤ A.G) : Sim A (iotaG G) (Bg G) w.heap := by
  have hdead : ∀ (b : Nat) (o : AObj), (Bg G)[b]? = some o → o = AObj.dead := fun b o hb => by
    simp only [Bg, List.getElem?_replicate] at hb
    split at hb
    · simpa using hb.symm
    · cases hb
  have hι : ∀ b l, iotaG G b = some l → b < G ∧ l = ⟨b, 0, 0, 0⟩ := fun b l hl => by
    unfold iotaG at hl
    split at hl
    · cases hl; exact ⟨by assumption, rfl⟩
    · cases hl
  refine ⟨fun b o l hb _ => ?_, fun b l hl => ?_, fun b b' l l' o o' _ _ _ hb _ h1 _ => ?_, hamb, fun b l o _ hb h1 => ?_, hle⟩
  · rw [hdead b o hb]; trivial
  · obtain ⟨h1, rfl⟩ := hι b l hl; show b < _; omega
  · rw [hdead b o hb] at h1; simp [AObj.own] at h1
  · rw [hdead b o hb] at h1; simp [AObj.own] at h1

theorem domG (G : Nat) : Dom (iotaG G) (Bg G).length := fun b hb => by
  rw [Bg_length] at hb; unfold iotaG; rw [if_neg (by omega)]

theorem globG : GlobOK P (iotaG P.globals.size) := fun g hg => ⟨⟨g, 0, 0, 0⟩, by simp [iotaG, hg], rfl, rfl⟩

theorem VR_pure {ι ι' : Emb} {a : AV} {v : Value} (hb : below 0 a = true) (h : VR ι a v) : VR ι' a v := VR_agree (fun b hb => by omega) hb h
theorem VRL_pure {ι ι' : Emb} {a : List AV} {v : List Value} (hb : belowL 0 a = true) (h : VRL ι a v) : VRL ι' a v := VRL_agree (fun b hb => by omega) hb h

/-- A pure call. -/
theorem calls_of_run {prims : Prims} (hmix : P.follows .mixedOrders = true) (hnum : NoNum P) (hp : PrimOK P A prims) (hG : P.globals.size ≤ A.G) {n : Nat} {f : FuncId} {args : List AV} {v : AV} {B' : Heap}
    (h : (run P prims n).call f args (Bg P.globals.size) = some (v, B', [])) (hb : belowL 0 args = true) (hv : below 0 v = true) (ι : Emb) (w : World) (xs : Array Value)
    (hamb : ∀ c, c < A.G → w.heap[c]? = A.base c) (hle : A.G ≤ w.heap.size) (hx : VRL ι args xs.toList) :
    Calls P f xs w fun e w' => ∃ v', e = .returned v' ∧ VR ι v v' ∧ Quiet w w' := by
  have hs := run_sound hmix hnum hp n
  refine (hs.call f _ _ _ _ _ h (iotaG P.globals.size) w xs (simG _ hamb hle hG) (domG _) globG (VRL_pure hb hx)).mono fun e w' => ?_
  rintro ⟨v', ι', rfl, h1, h2⟩
  exact ⟨v', rfl, VR_pure hv h1, ⟨h2.step.size, fun c hc => h2.step.keep c hc (fun _ h => by cases h), h2.step.tape, h2.step.os, h2.step.out⟩⟩

def Prims.addh (prims : Prims) (f : FuncId) (g : List AV → Heap → Tr (AV × Heap × List Nat)) : Prims := { prims with fn := fun x => if x = f then some g else prims.fn x }
def Prims.add (prims : Prims) (f : FuncId) (g : List AV → Option AV) : Prims := prims.addh f fun args B => .of (only B (g args))

theorem PrimOK.put {prims : Prims} (hp : PrimOK P A prims) {f : FuncId} {g : List AV → Heap → Tr (AV × Heap × List Nat)} {fn : Func} (hf : P.funcs[f]? = some fn) (hc : fn.body.isSome = true)
    (hg : ∀ args B v B' D, (g args B).get = some (v, B', D) → AFr B B' D ∧ ∀ (ι : Emb) (w : World) (xs : Array Value), Sim A ι B w.heap → Dom ι B.length → GlobOK P ι → VRL ι args xs.toList →
      Calls P f xs w fun e w' => ∃ v' ι', e = .returned v' ∧ VR ι' v v' ∧ After A ι ι' B B' D w w') : PrimOK P A (prims.addh f g) := by
  refine ⟨hp.ext, fun x g' hx => ?_, hp.blkfr, hp.blk⟩
  unfold Prims.addh at hx
  simp only at hx
  split at hx
  · rename_i e; subst e; cases hx
    exact ⟨⟨fn, _, hf, (Option.some_get hc).symm⟩, hg⟩
  · exact hp.fn x g' hx

/-- A function of the library, by a contract of the shelf. -/
theorem PrimOK.lib {prims : Prims} (hp : PrimOK P A prims) {f : FuncId} {g : List AV → Option AV} {fn : Func} (hf : P.funcs[f]? = some fn) (hc : fn.body.isSome = true)
    (hg : ∀ args v, g args = some v → ∀ (ι : Emb) (w : World) (xs : Array Value), (∀ c, c < A.G → w.heap[c]? = A.base c) → A.G ≤ w.heap.size → VRL ι args xs.toList →
      Calls P f xs w fun e w' => ∃ v', e = .returned v' ∧ VR ι v v' ∧ Quiet w w') : PrimOK P A (prims.add f g) := by
  refine hp.put hf hc fun args B v B' D h => ?_
  rw [Tr.get_of] at h
  refine ⟨only_fr h, fun ι w xs hs hd _ hx => ?_⟩
  unfold only at h
  simp only [Option.map_eq_some_iff, Prod.mk.injEq] at h
  obtain ⟨v', h1, rfl, rfl, rfl⟩ := h
  exact (hg _ _ h1 ι w xs hs.amb hs.gLe hx).mono fun e w' ⟨v', h1, h2, h3⟩ => ⟨v', ι, h1, h2, h3.after hs hd⟩

/-- A function whose runs are known is taken by what is known of it. -/
theorem PrimOK.add {prims : Prims} (hmix : P.follows .mixedOrders = true) (hnum : NoNum P) (hp : PrimOK P A prims) (hG : P.globals.size ≤ A.G) {f : FuncId} {g : List AV → Option AV} {fn : Func}
    (hf : P.funcs[f]? = some fn) (hc : fn.body.isSome = true)
    (hg : ∀ args v, g args = some v → belowL 0 args = true ∧ below 0 v = true ∧ ∃ n B', (run P prims n).call f args (Bg P.globals.size) = some (v, B', [])) : PrimOK P A (prims.add f g) := by
  refine hp.lib hf hc fun args v hgv ι w xs hamb hle hxs => ?_
  obtain ⟨h1, h2, n, B', h3⟩ := hg args v hgv
  exact calls_of_run hmix hnum hp hG h3 h1 h2 ι w xs hamb hle hxs

/-- The same, where the run is known at arguments that say less, and gives a value that says more. -/
theorem PrimOK.addw {prims : Prims} (hmix : P.follows .mixedOrders = true) (hnum : NoNum P) (hp : PrimOK P A prims) (hG : P.globals.size ≤ A.G) {f : FuncId} {g : List AV → Option AV} {fn : Func}
    (hf : P.funcs[f]? = some fn) (hc : fn.body.isSome = true)
    (hg : ∀ args v, g args = some v → ∃ args' v' n B', (∀ (ι : Emb) (xs : List Value), VRL ι args xs → VRL ι args' xs) ∧ (∀ (ι : Emb) (x : Value), VR ι v' x → VR ι v x) ∧ belowL 0 args' = true ∧ below 0 v' = true ∧
      (run P prims n).call f args' (Bg P.globals.size) = some (v', B', [])) : PrimOK P A (prims.add f g) := by
  refine hp.lib hf hc fun args v hgv ι w xs hamb hle hxs => ?_
  obtain ⟨args', v', n, B', h1, h2, h3, h4, h5⟩ := hg args v hgv
  exact (calls_of_run hmix hnum hp hG h5 h3 h4 ι w xs hamb hle (h1 ι _ hxs)).mono fun e w' ⟨y, p, q, r⟩ => ⟨y, p, h2 ι y q, r⟩

/-- A plain value by cases. -/
def Tr.plain (B : Heap) : Tr AV → Tr (AV × Heap × List Nat)
  | .leaf a => .leaf (a, B, [])
  | .br b t f => .br b (t.plain B) (f.plain B)
  | .fail => .fail

theorem Tr.get_plain {B : Heap} : ∀ (t : Tr AV), (t.plain B).get = only B t.get
  | .leaf a => rfl
  | .br true t f => by simpa only [Tr.plain, Tr.get] using Tr.get_plain t
  | .br false t f => by simpa only [Tr.plain, Tr.get] using Tr.get_plain f
  | .fail => rfl

def Prims.addt (prims : Prims) (f : FuncId) (g : List AV → Tr AV) : Prims := prims.addh f fun args B => (g args).plain B

/-- A function that is known by cases. -/
theorem PrimOK.addt {prims : Prims} (hmix : P.follows .mixedOrders = true) (hnum : NoNum P) (hp : PrimOK P A prims) (hG : P.globals.size ≤ A.G) {f : FuncId} {g : List AV → Tr AV} {fn : Func}
    (hf : P.funcs[f]? = some fn) (hc : fn.body.isSome = true)
    (hg : ∀ args v, (g args).get = some v → ∃ args' v' B', (∀ (ι : Emb) (xs : List Value), VRL ι args xs → VRL ι args' xs) ∧ (∀ (ι : Emb) (x : Value), VR ι v' x → VR ι v x) ∧ belowL 0 args' = true ∧ below 0 v' = true ∧
      Ca P prims f args' (Bg P.globals.size) (v', B', [])) : PrimOK P A (prims.addt f g) := by
  refine hp.put hf hc fun args B v B' D h => ?_
  rw [Tr.get_plain] at h
  refine ⟨only_fr h, fun ι w xs hs hd _ hx => ?_⟩
  unfold only at h
  simp only [Option.map_eq_some_iff, Prod.mk.injEq] at h
  obtain ⟨v1, h1, rfl, rfl, rfl⟩ := h
  obtain ⟨args', v', B', h2, h3, h4, h5, h6⟩ := hg args _ h1
  obtain ⟨n, h7⟩ := h6.run
  exact (calls_of_run hmix hnum hp hG h7 h4 h5 ι w xs hs.amb hs.gLe (h2 ι _ hx)).mono fun e w' ⟨y, p, q, r⟩ => ⟨y, ι, p, h3 ι y q, r.after hs hd⟩

/-- The value of a call by cases that writes nothing. -/
def finV : KV AV := fun v _ D => match D with
  | [] => some v
  | _ => none

theorem Ca.of_finV {prims : Prims} {n : Nat} {f : FuncId} {args : List AV} {B : Heap} {v : AV}
    (h : (runK P prims n).call f args B finV = some v) : ∃ B', Ca P prims f args B (v, B', []) := by
  obtain ⟨v', B', D, h1, h2⟩ := (runK_ref n).call _ _ _ _ _ h
  unfold finV at h2
  split at h2
  · cases h2; exact ⟨B', h1⟩
  · cases h2

/-- Nothing is known. -/
def noPrims : Prims := { fn := fun _ => none, ext := fun _ => none, blk := fun _ => noBps }

theorem PrimOK.none : PrimOK P A noPrims := ⟨fun f g h => (by cases h), fun f g h => (by cases h), fun _ => .none, fun _ _ _ _ _ => .none _⟩

def Prims.addx (prims : Prims) (f : FuncId) (g : List AV → Option AV) : Prims := { prims with ext := fun x => if x = f then some g else prims.ext x }

/-- A function that the machine knows. -/
theorem PrimOK.addx {prims : Prims} (hp : PrimOK P A prims) {f : FuncId} {g : List AV → Option AV}
    (hg : ∀ args v, g args = some v → ∀ (ι : Emb) (w : World) (xs : Array Value), VRL ι args xs.toList → ∃ v', (callFunc f xs).run P w = .ok (.value v') w ∧ VR ι v v') : PrimOK P A (prims.addx f g) := by
  refine ⟨fun x g' hx => ?_, hp.fn, hp.blkfr, hp.blk⟩
  unfold Prims.addx at hx
  simp only at hx
  split at hx
  · rename_i e; subst e; cases hx; exact hg
  · exact hp.ext x g' hx

theorem Quiet.refl (w : World) : Quiet w w := ⟨Nat.le_refl _, fun _ _ => rfl, rfl, rfl, rfl⟩

end
end Go.Ad
