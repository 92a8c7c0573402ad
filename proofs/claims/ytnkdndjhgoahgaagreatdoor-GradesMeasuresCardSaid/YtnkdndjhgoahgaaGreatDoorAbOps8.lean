/- The abstract evaluator's operations stand for the model's: all operations together. -/
import Derived.Test.YtnkdndjhgoahgaaGreatDoorAbOps7
namespace Go.Ab

section
variable {P : Program} {A : Amb} {ι : Emb} {B : Heap} {w : World}

theorem not_bad {a : AV} (h : isBad a = false) : a ≠ .bad := fun e => by subst e; simp [isBad] at h

theorem anilCheck_sound {a v : AV} {x : Value} {s : Sem Value} (h : anilCheck a = some v) (hx : VR ι a x) (hval : s.run P w = .ok x w) : Pure P w ι s v := by
  unfold anilCheck at h
  split at h <;> first | (simp at h; done) | (cases h; exact ⟨x, hval, hx⟩)

theorem VRL.ofmap {f : Operand → AV} {g : Operand → Value} (h : ∀ x, VR ι (f x) (g x)) (l : List Operand) : VRL ι (l.map f) (l.map g) := VRL.map f g h l

theorem abuiltin_sound {b : Builtin} {ts : Array TypeId} {ty : TypeId} {cs : Array Bool} {args : List AV} {xs : List Value} {v : AV} {B' : Heap} {D : List Nat} (hs : Sim A ι B w.heap) (hd : Dom ι B.length)
    (h : abuiltin P B b ts args = some (v, B', D)) (hx : VRL ι args xs) : Got P A ι B w (builtin b ts ty cs xs.toArray) v B' D := by
  unfold abuiltin at h
  split at h
  · rename_i s x
    simp only [VRL] at hx
    obtain ⟨s', _, rfl, h1, x', _, rfl, h2, rfl⟩ := hx
    exact aappend_sound hs hd h h1 h2
  · rename_i s x
    simp only [VRL] at hx
    obtain ⟨s', _, rfl, h1, x', _, rfl, h2, rfl⟩ := hx
    exact acopy_sound hs hd h h1 h2
  · rename_i x
    simp only [VRL] at hx
    obtain ⟨x', _, rfl, h1, rfl⟩ := hx
    exact got_only hs hd h fun v hv => alength_sound hs hv h1
  · rename_i x r
    simp only [VRL] at hx
    obtain ⟨x', xs', rfl, h1, h2⟩ := hx
    exact got_only (s := Builtin.max_ ts ty (x' :: xs').toArray) hs hd h fun v hv => amax_sound hv h1 h2
  · rename_i x r
    simp only [VRL] at hx
    obtain ⟨x', xs', rfl, h1, h2⟩ := hx
    exact got_only (s := Builtin.min_ ts ty (x' :: xs').toArray) hs hd h fun v hv => amin_sound hv h1 h2
  · simp at h

theorem aop_sound {o : Oper} {ρ : Operand → AV} {ρ' : Operand → Value} {v : AV} {B' : Heap} {D : List Nat} (h : aop P ρ B o.op = some (v, B', D)) (hs : Sim A ι B w.heap) (hd : Dom ι B.length)
    (hρ : ∀ x, VR ι (ρ x) (ρ' x)) : Got P A ι B w (execOp ρ' o) v B' D := by
  obtain ⟨dst, op, ty, pos, after, guard⟩ := o
  cases op with
  | move x =>
    exact got_only (s := pure (ρ' x)) hs hd h fun v hv => by cases hv; exact ⟨_, rfl, hρ x⟩
  | assign x =>
    exact got_only (s := pure (ρ' x)) hs hd h fun v hv => by cases hv; exact ⟨_, rfl, hρ x⟩
  | pick c a b =>
    simp only [aop] at h
    split at h
    · rename_i t ht
      have hc := hρ c
      rw [ht] at hc
      simp only [VR] at hc
      cases h
      refine ⟨ι, if t then ρ' a else ρ' b, .value (if t then ρ' a else ρ' b), w, ?_, .inl rfl, .refl _ _ _, ?_, hs, Nat.le_refl _, hd⟩
      · show (do pure (.value (if ← asBool (ρ' c) then ρ' a else ρ' b)) : Sem Next).run P w = _
        rw [hc]; rfl
      · cases t
        · exact hρ b
        · exact hρ a
    · simp at h
  | alloc t =>
    simp only [aop, Option.map_eq_some_iff, Prod.mk.injEq] at h
    obtain ⟨z, hz, rfl, rfl, rfl⟩ := h
    exact aalloc_sound hs hd hz
  | box t x =>
    simp only [aop] at h
    split at h
    · simp at h
    · rename_i hb
      cases h
      exact abox_sound hs hd (not_bad (by simpa using hb)) (hρ x)
  | build t ps =>
    refine got_only hs hd h fun v hv => abuild_sound hv ?_
    have := PartsR.map hρ ps.toList
    simpa using this
  | buildSlice t n ps =>
    refine abuildSlice_sound hs hd h ?_
    have := PartsR.map hρ ps.toList
    simpa using this
  | load t a => exact got_only hs hd h fun v hv => aload_sound hs hv (hρ a)
  | store t a x =>
    simp only [aop] at h
    split at h
    · simp at h
    · rename_i hb
      exact astore_sound hs hd h (not_bad (by simpa using hb)) (hρ a) (hρ x)
  | nilCheck x =>
    have hx := hρ x
    have h' := h
    simp only [aop, only, Option.map_eq_some_iff, Prod.mk.injEq] at h'
    obtain ⟨v', hv', rfl, rfl, rfl⟩ := h'
    unfold anilCheck at hv'
    refine ⟨ι, ρ' x, .value (ρ' x), w, ?_, .inl rfl, .refl _ _ _, ?_, hs, Nat.le_refl _, hd⟩
    · show (match ρ' x with
        | .pointer none | .nilIface | .nilFunc => runtimePanic .nilDeref
        | .func (.method name) first captured => _
        | x => pure (.value x) : Sem Next).run P w = _
      split at hv' <;> first | (simp at hv'; done) | skip
      · rename_i a he; rw [he] at hx; obtain ⟨b, o⟩ := a; simp only [VR] at hx; obtain ⟨l, _, e⟩ := hx; rw [e]; rfl
      · rename_i t a he; rw [he] at hx; simp only [VR] at hx; obtain ⟨y, e, _⟩ := hx; rw [e]; rfl
      · rename_i f a b he; rw [he] at hx; simp only [VR, FR] at hx; obtain ⟨f', xs, ys, e, rfl, _⟩ := hx; rw [e]; rfl
      · rename_i f a b he; rw [he] at hx; simp only [VR, FR] at hx; obtain ⟨f', xs, ys, e, ⟨lo, _, rfl⟩, _⟩ := hx; rw [e]; rfl
    · split at hv' <;> first | (simp at hv'; done) | (rename_i he; cases hv'; rw [he] at hx; exact hx)
  | binOp op t x y yt => exact got_only (s := do eqGuard op t x y (ρ' x) (ρ' y); binOp op t (ρ' x) (ρ' y)) hs hd h fun v hv => abin_sound hv (hρ x) (hρ y)
  | unOp op t x => exact got_only hs hd h fun v hv => aun_sound hv (hρ x)
  | convert s d x => exact aconvert_sound hs hd h (hρ x)
  | makeInterface t x => exact got_only hs hd h fun v hv => amkIface_sound hv (hρ x)
  | makeFunc f a b =>
    cases f with
    | func f =>
      refine got_only (s := Instr.makeFunc (.func f) (a.map ρ') (b.map ρ')) hs hd h fun v hv => ?_
      cases hv
      refine ⟨_, rfl, ?_⟩
      simp only [VR, FR]
      exact ⟨_, _, _, rfl, rfl, by simpa using VRL.ofmap hρ a.toList, by simpa using VRL.ofmap hρ b.toList⟩
    | _ => simp [aop] at h
  | makeSlice t l c => exact amakeSlice_sound hs hd h (hρ l) (hρ c)
  | slice t x lo hi mx => exact got_only hs hd h fun v hv => aslice_sound hs hv (hρ x) (VRo.map hρ lo) (VRo.map hρ hi) (VRo.map hρ mx)
  | fieldAddr t x f => exact got_only hs hd h fun v hv => afieldAddr_sound hv (hρ x)
  | field t x f => exact got_only hs hd h fun v hv => afield_sound hv (hρ x)
  | indexAddr t x i => exact got_only hs hd h fun v hv => aindexAddr_sound hv (hρ x) (hρ i)
  | index t x i => exact got_only hs hd h fun v hv => aindex_sound hv (hρ x) (hρ i)
  | extract t i => exact got_only hs hd h fun v hv => aextract_sound hv (hρ t)
  | call c =>
    obtain ⟨callee, args, ats⟩ := c
    cases callee with
    | builtin b =>
      simp only [aop] at h
      have := abuiltin_sound (ty := ty) (cs := args.map fun | .const _ => true | _ => false) hs hd h (VRL.ofmap hρ args.toList)
      have e : (args.toList.map ρ').toArray = args.map ρ' := by apply Array.ext'; simp
      rw [e] at this
      exact this
    | value f => simp [aop] at h
    | invoke r m => simp [aop] at h
  | _ => simp [aop] at h

end
end Go.Ab
