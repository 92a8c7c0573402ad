/- Functions that the machine knows: what they give. -/
import Derived.Test.YtmenhnnkibpidaaGreatDoorAdPrim
namespace Go.Ad

section
variable {P : Program} {A : Amb}

theorem ext_run {f : FuncId} {fn : Func} {e : Array Value → Sem Value} (hf : P.funcs[f]? = some fn) (hn : (fn.name == "runtime.NumGoroutine") = false) (hb : fn.body = .none)
    (h1 : Extern.findNext fn = .none) (h2 : Extern.find fn = some e) {xs : Array Value} {v : Value} {w w' : World} (hr : (e xs).run P w = .ok v w') : (callFunc f xs).run P w = .ok (.value v) w' := by
  have hn' : ¬ fn.name = "runtime.NumGoroutine" := by simpa using hn
  simp [callFunc, hf, hn', hb, h1, h2, hr]

/-- abi.NoEscape gives back what it got. -/
def gSame : List AV → Option AV
  | [a] => some a
  | _ => none

theorem PrimOK.noEscape {prims : Prims} (hp : PrimOK P A prims) {f : FuncId} {fn : Func} (hf : P.funcs[f]? = some fn) (hn : (fn.name == "runtime.NumGoroutine") = false) (hb : fn.body = .none)
    (h1 : Extern.findNext fn = .none) (h2 : Extern.find fn = some Extern.AbiNoEscape.same) : PrimOK P A (prims.addx f gSame) := by
  refine hp.addx fun args v hg ι w xs hx => ?_
  unfold gSame at hg
  split at hg
  · cases hg
    simp only [VRL] at hx
    obtain ⟨x, l, hxs, hv, rfl⟩ := hx
    have e1 : xs = #[x] := by apply Array.ext'; simpa using hxs
    subst e1
    exact ⟨x, ext_run hf hn hb h1 h2 (by rfl), hv⟩
  · cases hg

end
end Go.Ad
