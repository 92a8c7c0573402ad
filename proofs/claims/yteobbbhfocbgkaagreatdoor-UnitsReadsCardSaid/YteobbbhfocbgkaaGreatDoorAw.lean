/- The chapter's examples (awake): tables of closed calls; the loops over maps. -/
import Derived.Test.YteobbbhfocbgkaaGreatDoorF0
import Derived.Test.YteobbbhfocbgkaaGreatDoorAdMapR
namespace Go.Proofs.Tryz
open Go.Ad
open Go.Lib (decDigits itoa nDigits decFrom digitVal)
theorem PrimOK.addtab2 {A : Amb} {prims prims0 : Prims} (hp0 : PrimOK prog A prims0) (hp : PrimOK prog A prims) (hG : prog.globals.size ≤ A.G) {f : FuncId} {tab : List (List AV × AV)} {fn : Func}
  (hf : prog.funcs[f]? = some fn) (hc : fn.body.isSome = true)
  (h : ∀ p, p ∈ tab → belowL 0 p.1 = true ∧ ∃ v', below 0 v' = true ∧ (∀ ι x, VR ι v' x → VR ι p.2 x) ∧ ∃ n, (runK prog prims0 n).call f p.1 (Bg prog.globals.size) finV = some v') : PrimOK prog A (prims.addt f (gTab tab)) := by
 refine PrimOK.addt3 hmix hnum hp hG hf hc fun args v hv => ?_
 unfold gTab at hv
 split at hv
 ·rename_i p hfind
  cases hv
  obtain ⟨h1, v', h2, h4, n, h3⟩ := h p (List.mem_of_find?_eq_some hfind)
  have he := sameL_eq (by simpa using List.find?_some hfind : sameL p.1 args = true)
  obtain ⟨B', hca⟩ := Ca.of_finV h3
  exact ⟨prims0, p.1, v', B', hp0, fun ι xs hx => by rw [he]; exact hx, h4, h1, h2, hca⟩
 ·cases hv
def tPar : List (List UInt8 × Int × Int) := [([49, 50, 46, 53, 32, 109, 109], 12500, 0), ([49, 47, 56, 32, 105, 110], 3175, 0), ([45, 50, 32, 99, 109], -20000, 0), ([48, 46, 51, 32, 117, 109], 0, 14), ([53], 0, 20), ([48, 53, 32, 109, 109], 0, 4), ([46, 53, 32, 109, 109], 0, 4), ([52, 32, 105, 110], 0, 2)]
theorem tPar_ok : ∀ p ∈ tPar, parR p.1 = (p.2.1, p.2.2) := by
 intro p hp
 simp only [tPar, List.mem_cons, List.not_mem_nil, or_false] at hp
 rcases hp with rfl | rfl | rfl | rfl | rfl | rfl | rfl | rfl <;> kernel_rfl
def tFmt : List (Int × List UInt8) := [(0, [51, 49, 55, 53, 32, 117, 109]), (1, [51, 46, 49, 55, 53, 32, 109, 109]), (2, [48, 46, 51, 49, 55, 53, 32, 99, 109]), (3, [49, 47, 56, 32, 105, 110]), (4, [49, 50, 53, 32, 116, 104, 111, 117])]
theorem tFmt_ok : ∀ p ∈ tFmt, fmR 3175 p.1 = (p.2, 0) := by
 intro p hp
 simp only [tFmt, List.mem_cons, List.not_mem_nil, or_false] at hp
 rcases hp with rfl | rfl | rfl | rfl | rfl <;> kernel_rfl
def tExa : List (List UInt8 × List UInt8) := [([48, 46, 51, 32, 117, 109], [51, 47, 49, 48]), ([49, 47, 51, 32, 109, 109], [49, 48, 48, 48, 47, 51])]
theorem tExa_ok : ∀ p ∈ tExa, exR p.1 = (p.2, 0) := by
 intro p hp
 simp only [tExa, List.mem_cons, List.not_mem_nil, or_false] at hp
 rcases hp with rfl | rfl <;> kernel_rfl
theorem vr_ii {ι : Emb} {a b c d : Int} (e : (a, b) = (c, d)) (x : Value) (h : VR ι (.tuple [.sint .i64 a, .sint .i64 b]) x) : VR ι (.tuple [.int .i64 c, .int .i64 d]) x := by
 cases e
 refine vr_tup2 (fun v h => ?_) (fun v h => ?_) x h
 ·simpa only [VR] using h
 ·simpa only [VR] using h
theorem vr_si {ι : Emb} {s t : List UInt8} {m n : Int} (e : (s, m) = (t, n)) (x : Value) (h : VR ι (.tuple [.sstr s, .sint .i64 m]) x) : VR ι (.tuple [.str t, .int .i64 n]) x := by
 cases e
 refine vr_tup2 (fun v h => ?_) (fun v h => ?_) x h
 ·simpa only [VR] using h
 ·simpa only [VR] using h
theorem kPar (s : List UInt8) : (runK prog pX6 60).call 13 [.str s] (Bg 8) finV = brK (szOK s) (some (.tuple [.sint .i64 (parR s).1, .sint .i64 (parR s).2])) none := by kernel_rfl
theorem kExa (s : List UInt8) : (runK prog pX6 60).call 11 [.str s] (Bg 8) finV = brK (szOK s) (some (.tuple [.sstr (exR s).1, .sint .i64 (exR s).2])) none := by kernel_rfl
theorem kFmt (n u : Int) : (runK prog pF4 60).call 19 [.int .i64 n, .int .i64 u] (Bg 8) finV = some (.tuple [.sstr (fmR n u).1, .sint .i64 (fmR n u).2]) := by kernel_rfl
theorem kAdd (a b : List UInt8) : (runK prog pX6 60).call 48 [.str a, .str b] (Bg 8) finV = brK (propB (smQ a ∧ smQ b ∧ True)) (some (.tuple [.sstr (lowT (ratN a * ratD b + ratN b * ratD a) (ratD a * ratD b)), .sint .i64 0])) none := by kernel_rfl
theorem kBey (a : List UInt8) : (runK prog pX6 60).call 34 [.str a] (Bg 8) finV = brK (propB (smQ a)) (some (.sbool (!(rangeB a)))) none := by kernel_rfl
theorem kInt (a : List UInt8) : (runK prog pX6 60).call 40 [.str a] (Bg 8) finV = brK (propB (smI a)) (some (.tuple [.sint .i64 (intR a).1, .sint .i64 (intR a).2])) none := by kernel_rfl
def x0 : List UInt8 := [48]
def x1 : List UInt8 := [49, 48, 48, 48, 47, 51]
def x2 : List UInt8 := [50, 48, 48, 48, 47, 51]
def x3 : List UInt8 := [49, 48, 48, 48]
theorem rq_x0 : Rq x0 0 1 := ⟨by kernel_rfl, by omega, by decide⟩
theorem rq_x1 : Rq x1 1000 3 := ⟨by kernel_rfl, by omega, by decide⟩
theorem rq_x2 : Rq x2 2000 3 := ⟨by kernel_rfl, by omega, by decide⟩
theorem rq_x3 : Rq x3 1000 1 := ⟨by kernel_rfl, by omega, by decide⟩
theorem sm_x0 : smQ x0 := rq_x0.sm (by decide) (by decide)
theorem sm_x1 : smQ x1 := rq_x1.sm (by decide) (by decide)
theorem sm_x2 : smQ x2 := rq_x2.sm (by decide) (by decide)
theorem sm_x3 : smQ x3 := rq_x3.sm (by decide) (by decide)
def tabPar : List (List AV × AV) := tPar.map fun p => ([.str p.1], .tuple [.int .i64 p.2.1, .int .i64 p.2.2])
def tabExa : List (List AV × AV) := tExa.map fun p => ([.str p.1], .tuple [.str p.2, .int .i64 0])
def tabFmt : List (List AV × AV) := tFmt.map fun p => ([.int .i64 3175, .int .i64 p.1], .tuple [.str p.2, .int .i64 0])
def tabAdd : List (List AV × AV) := [([.str x0, .str x1], .tuple [.str x1, .int .i64 0]), ([.str x1, .str x1], .tuple [.str x2, .int .i64 0]), ([.str x2, .str x1], .tuple [.str x3, .int .i64 0])]
def tabBey : List (List AV × AV) := [([.str x3], .bool false)]
def tabInt : List (List AV × AV) := [([.str x3], .tuple [.int .i64 1000, .int .i64 0])]
noncomputable def pAw : Prims := (((((lib2.addt 13 (gTab tabPar)).addt 11 (gTab tabExa)).addt 19 (gTab tabFmt)).addt 48 (gTab tabAdd)).addt 34 (gTab tabBey)).addt 40 (gTab tabInt)
section
variable {A : Amb} (hT : Tab A) (hE : TabE A) (hG : prog.globals.size ≤ A.G)
include hT hE hG
theorem pAw_ok : PrimOK prog A pAw := by
 have h0 := lib2_ok hT
 have hX := pX6_ok hT hE hG
 have hF := pF4_ok hT hE hG
 refine PrimOK.addtab2 hX (PrimOK.addtab2 hX (PrimOK.addtab2 hX (PrimOK.addtab2 hF (PrimOK.addtab2 hX (PrimOK.addtab2 hX h0 hG func13 (by kernel_rfl) ?_) hG func11 (by kernel_rfl) ?_) hG func19 (by kernel_rfl) ?_) hG func48 (by kernel_rfl) ?_) hG func34 (by kernel_rfl) ?_) hG func40 (by kernel_rfl) ?_
 ·intro p hp
  obtain ⟨q, hq, rfl⟩ := List.mem_map.1 hp
  have e := tPar_ok q hq
  have hs : szOK q.1 = true := by
   simp only [tPar, List.mem_cons, List.not_mem_nil, or_false] at hq
   rcases hq with rfl | rfl | rfl | rfl | rfl | rfl | rfl | rfl <;> rfl
  exact ⟨rfl, _, rfl, fun ι x h => vr_ii e x h, 60, (kPar q.1).trans (by rw [hs]; rfl)⟩
 ·intro p hp
  obtain ⟨q, hq, rfl⟩ := List.mem_map.1 hp
  have e := tExa_ok q hq
  have hs : szOK q.1 = true := by
   simp only [tExa, List.mem_cons, List.not_mem_nil, or_false] at hq
   rcases hq with rfl | rfl <;> rfl
  exact ⟨rfl, _, rfl, fun ι x h => vr_si e x h, 60, (kExa q.1).trans (by rw [hs]; rfl)⟩
 ·intro p hp
  obtain ⟨q, hq, rfl⟩ := List.mem_map.1 hp
  have e := tFmt_ok q hq
  exact ⟨rfl, _, rfl, fun ι x h => vr_si e x h, 60, kFmt _ _⟩
 ·intro p hp
  simp only [tabAdd, List.mem_cons, List.not_mem_nil, or_false] at hp
  rcases hp with rfl | rfl | rfl
  ·exact ⟨rfl, _, rfl, fun ι x h => vr_si (s := lowT (ratN x0 * ratD x1 + ratN x1 * ratD x0) (ratD x0 * ratD x1)) (by kernel_rfl) x h, 60, (kAdd x0 x1).trans (by rw [propB_true ⟨sm_x0, sm_x1, trivial⟩]; rfl)⟩
  ·exact ⟨rfl, _, rfl, fun ι x h => vr_si (s := lowT (ratN x1 * ratD x1 + ratN x1 * ratD x1) (ratD x1 * ratD x1)) (by kernel_rfl) x h, 60, (kAdd x1 x1).trans (by rw [propB_true ⟨sm_x1, sm_x1, trivial⟩]; rfl)⟩
  ·exact ⟨rfl, _, rfl, fun ι x h => vr_si (s := lowT (ratN x2 * ratD x1 + ratN x1 * ratD x2) (ratD x2 * ratD x1)) (by kernel_rfl) x h, 60, (kAdd x2 x1).trans (by rw [propB_true ⟨sm_x2, sm_x1, trivial⟩]; rfl)⟩
 ·intro p hp
  simp only [tabBey, List.mem_cons, List.not_mem_nil, or_false] at hp
  subst hp
  exact ⟨rfl, .sbool (!(rangeB x3)), rfl, fun ι x h => (by rw [show (!(rangeB x3)) = false by kernel_rfl] at h; simpa only [VR] using h), 60, (kBey x3).trans (by rw [propB_true sm_x3]; rfl)⟩
 ·intro p hp
  simp only [tabInt, List.mem_cons, List.not_mem_nil, or_false] at hp
  subst hp
  exact ⟨rfl, _, rfl, fun ι x h => vr_ii (a := (intR x3).1) (b := (intR x3).2) (by kernel_rfl) x h, 60, (kInt x3).trans (by rw [propB_true ⟨sm_x3, by rw [rq_x3.n]; decide⟩]; rfl)⟩
end
noncomputable def code10 : Code := f10.body.getD .skip
noncomputable def a0 : Code := fstC code10
noncomputable def a1 : Code := fstC (sndC code10)
noncomputable def a2 : Code := fstC (sndC (sndC code10))
noncomputable def a3 : Code := sndC (sndC (sndC code10))
theorem code10_eq : code10 = .seq a0 (.seq a1 (.seq a2 a3)) := by kernel_rfl
noncomputable def mF (c : Code) : Code := fstC c
noncomputable def mL (id : Nat) (c : Code) : Code := unLoop (findB id c)
noncomputable def mT (id : Nat) (c : Code) : Code := fstC (mL id c)
noncomputable def mB (id : Nat) (c : Code) : Code := ((findB id c).getD .skip)
noncomputable def mE (id : Nat) (c : Code) : Code := fstC (mB id c)
noncomputable def mR (id : Nat) (c : Code) : Code := sndC (mB id c)
theorem a1_eq : a1 = .seq (.region 1 (opsR (mF a1)) false) (.block 0 (.loop (.seq (.region 2 (opsR (mT 0 a1)) false) (.seq (.cond (.tmp 21) .skip (.exit 0)) (.block 1 (.seq (.region 3 (opsR (mE 1 a1)) false) (mR 1 a1))))))) := by kernel_rfl
theorem a2_eq : a2 = .seq (.region 7 (opsR (mF a2)) false) (.block 2 (.loop (.seq (.region 8 (opsR (mT 2 a2)) false) (.seq (.cond (.tmp 41) .skip (.exit 2)) (.block 3 (.seq (.region 9 (opsR (mE 3 a2)) false) (mR 3 a2))))))) := by kernel_rfl
def spA : SP := ⟨[.is (.bool false)] ++ dr 93, dd8⟩
theorem run10_0 : execK prog (runK prog pAw 60) noBps a0 (List.replicate 94 aundef) (Bg 8) (nrmP (fun _ => spA) 8 []) = some (.normal, []) := by kernel_rfl
def spA1 : SP := ⟨[.is (.bool true)] ++ dr 93, dd8⟩
theorem run10_3 : execK prog (runK prog pAw 60) noBps a3 (spA.rho []) (spA.heap []) (nrmP (fun _ => spA1) 8 []) = some (.ret, []) := by kernel_rfl
noncomputable def rA : List AV := spA.rho []
noncomputable def stM (c : Code) : List AV × Heap × List Nat := ((aops prog (run prog pAw 60) (opsR (mF c)) (opsR (mF c)).toList.dropLast rA (Bg 8)).getD ([], [], []))
noncomputable def esM (c : Code) : List (AV × AV) := match ((stM c).2.1 : List AObj)[8]? with | some (AObj.maps es) => es | _ => []
noncomputable abbrev rIt (c : Code) (it : Tmp) : List AV := aput (stM c).1 (some it) (.ptr (some ((stM c).2.1.length, 0)))
noncomputable def rN (c : Code) (l : Nat) (it tn : Tmp) (v : AV) : List AV := ((aops prog (run prog pAw 60) (opsR (mT l c)) ((opsR (mT l c)).toList.drop 1) (aput (rIt c it) (some tn) v) ((stM c).2.1 ++ [.miter])).getD ([], [], [])).1
noncomputable def rEn (c : Code) (l : Nat) (it tn te : Tmp) (e : AV × AV) : List AV := ((aops prog (run prog pAw 60) (opsR (mE (l + 1) c)) ((opsR (mE (l + 1) c)).toList.drop 1) (aput (rN c l it tn (.tuple [.bool true, .bad, .bad])) (some te) (.tuple [e.1, e.2])) ((stM c).2.1 ++ [.miter])).getD ([], [], [])).1
noncomputable abbrev entT (c : Code) (l : Nat) (it tn te : Tmp) (live : List Tmp) (e : AV × AV) : Option (AEx × List AV × Heap × List Nat) := execK prog (runK prog pAw 60) noBps (mR (l + 1) c) (rEn c l it tn te e) ((stM c).2.1 ++ [.miter]) (keepK live)
theorem map1 : (esM a1).map (entT a1 0 19 20 22 [0, 17, 18, 19]) = (esM a1).map fun _ => some (.normal, rIt a1 19, (stM a1).2.1 ++ [.miter], []) := by kernel_rfl
theorem map2 : (esM a2).map (entT a2 2 39 40 42 [0, 37, 38, 39]) = (esM a2).map fun _ => some (.normal, rIt a2 39, (stM a2).2.1 ++ [.miter], []) := by kernel_rfl
theorem ent1 : (esM a1).map (fun e => aops prog (run prog pAw 60) (opsR (mE 1 a1)) ((opsR (mE 1 a1)).toList.drop 1) (aput (rN a1 0 19 20 (.tuple [.bool true, .bad, .bad])) (some 22) (.tuple [e.1, e.2])) ((stM a1).2.1 ++ [.miter])) = (esM a1).map fun e => some (rEn a1 0 19 20 22 e, (stM a1).2.1 ++ [.miter], []) := by kernel_rfl
theorem ent2 : (esM a2).map (fun e => aops prog (run prog pAw 60) (opsR (mE 3 a2)) ((opsR (mE 3 a2)).toList.drop 1) (aput (rN a2 2 39 40 (.tuple [.bool true, .bad, .bad])) (some 42) (.tuple [e.1, e.2])) ((stM a2).2.1 ++ [.miter])) = (esM a2).map fun e => some (rEn a2 2 39 40 42 e, (stM a2).2.1 ++ [.miter], []) := by kernel_rfl
theorem map_at {α β : Type} {l : List α} {f g : α → β} (h : l.map f = l.map g) {e : α} (he : e ∈ l) : f e = g e := List.map_inj_left.1 h e he
section
variable {A : Amb} (hT : Tab A) (hE : TabE A) (hG : prog.globals.size ≤ A.G)
include hT hE hG
theorem seb1 : SEB prog A (Bg 8) a1 ⟨spA.rho [], spA.heap [], []⟩ .normal ⟨spA.rho [], spA.heap [], []⟩ := by
 have hp := pAw_ok hT hE hG
 have h := SEB.rangeMap (A := A) (B0 := Bg 8) (prims := pAw) (n := 60) hmix hnum hp (ρ0 := rA) (ρ1 := (stM a1).1) (Bs := Bg 8) (B1 := (stM a1).2.1) (D0 := []) (D1 := (stM a1).2.2) (mb := 8) (it := 19) (tn := 20) (te := 22) (tok := 21) (mt := 18) (i1 := 1) (i2 := 2) (i3 := 3) (id0 := 0) (id1 := 1)
  (ops1 := opsR (mF a1)) (ops2 := opsR (mT 0 a1)) (ops3 := opsR (mE 1 a1)) (c4 := mR 1 a1) (es := esM a1) (l1 := (opsR (mF a1)).toList.dropLast) (o1 := lastR (mF a1)) (ty := 57) (kt := 9) (et := 3)
  (by kernel_rfl) (by kernel_rfl) (by kernel_rfl) (by kernel_rfl) (by kernel_rfl) (by kernel_rfl) (by kernel_rfl) (by kernel_rfl) (by kernel_rfl)
  (o2 := headR (mT 0 a1)) (by kernel_rfl) (by kernel_rfl) (by kernel_rfl) (by kernel_rfl) (ρn := rN a1 0 19 20 (.tuple [.bool true, .bad, .bad])) (ρe := rN a1 0 19 20 (.tuple [.bool false])) (by kernel_rfl) (by kernel_rfl) (by kernel_rfl) (by kernel_rfl) (by kernel_rfl)
  (o3 := headR (mE 1 a1)) (by kernel_rfl) (by kernel_rfl) (by kernel_rfl) (by kernel_rfl) fun e he => ⟨rEn a1 0 19 20 22 e, map_at ent1 he, (by have h := map_at map1 he; exact SEB.of_K0 hmix hnum hp (.none _) h)⟩
 rw [a1_eq]
 refine SEB.wk_out h ?_
 exact Wk.of_nrmP (e := .normal) (e1 := .normal) (sp := fun _ => spA) (ds := []) (m := 8) (ls := []) rfl (by kernel_rfl) rfl
theorem seb2 : SEB prog A (Bg 8) a2 ⟨spA.rho [], spA.heap [], []⟩ .normal ⟨spA.rho [], spA.heap [], []⟩ := by
 have hp := pAw_ok hT hE hG
 have h := SEB.rangeMap (A := A) (B0 := Bg 8) (prims := pAw) (n := 60) hmix hnum hp (ρ0 := rA) (ρ1 := (stM a2).1) (Bs := Bg 8) (B1 := (stM a2).2.1) (D0 := []) (D1 := (stM a2).2.2) (mb := 8) (it := 39) (tn := 40) (te := 42) (tok := 41) (mt := 38) (i1 := 7) (i2 := 8) (i3 := 9) (id0 := 2) (id1 := 3)
  (ops1 := opsR (mF a2)) (ops2 := opsR (mT 2 a2)) (ops3 := opsR (mE 3 a2)) (c4 := mR 3 a2) (es := esM a2) (l1 := (opsR (mF a2)).toList.dropLast) (o1 := lastR (mF a2)) (ty := 58) (kt := 9) (et := 24)
  (by kernel_rfl) (by kernel_rfl) (by kernel_rfl) (by kernel_rfl) (by kernel_rfl) (by kernel_rfl) (by kernel_rfl) (by kernel_rfl) (by kernel_rfl)
  (o2 := headR (mT 2 a2)) (by kernel_rfl) (by kernel_rfl) (by kernel_rfl) (by kernel_rfl) (ρn := rN a2 2 39 40 (.tuple [.bool true, .bad, .bad])) (ρe := rN a2 2 39 40 (.tuple [.bool false])) (by kernel_rfl) (by kernel_rfl) (by kernel_rfl) (by kernel_rfl) (by kernel_rfl)
  (o3 := headR (mE 3 a2)) (by kernel_rfl) (by kernel_rfl) (by kernel_rfl) (by kernel_rfl) fun e he => ⟨rEn a2 2 39 40 42 e, map_at ent2 he, (by have h := map_at map2 he; exact SEB.of_K0 hmix hnum hp (.none _) h)⟩
 rw [a2_eq]
 refine SEB.wk_out h ?_
 exact Wk.of_nrmP (e := .normal) (e1 := .normal) (sp := fun _ => spA) (ds := []) (m := 8) (ls := []) rfl (by kernel_rfl) rfl
theorem sebA : SEB prog A (Bg 8) code10 ⟨List.replicate 94 aundef, Bg 8, []⟩ .ret ⟨spA1.rho [], spA1.heap [], []⟩ := by
 have hp := pAw_ok hT hE hG
 have hB : (Bg 8).length = 8 := rfl
 rw [code10_eq]
 refine SEB.seq (SEB.of_KP (A := A) (e := .normal) hmix hnum hp (.none _) hB run10_0 rfl) ?_
 refine SEB.seq (seb1 hT hE hG) (SEB.seq (seb2 hT hE hG) ?_)
 exact SEB.of_KP (A := A) (e := .ret) hmix hnum hp (.none _) hB run10_3 rfl
end
noncomputable def withAwake (prims : Prims) : Prims := prims.addh 10 (gPin [] (Bg 8) (.bool true) (Bg 8) [])
theorem withAwake_ok {A : Amb} (hT : Tab A) (hE : TabE A) (hG : prog.globals.size ≤ A.G) {prims : Prims} (hp : PrimOK prog A prims) : PrimOK prog A (withAwake prims) := by
 refine PrimOK.body hp func10 (show f10.body = some code10 by kernel_rfl) fun args B v B' D hq => ?_
 obtain ⟨hc1, hv⟩ := Tr.br_get0 hq
 obtain ⟨rfl, rfl⟩ := propB_eq hc1
 simp only [Tr.get, Option.some.injEq, Prod.mk.injEq] at hv
 obtain ⟨rfl, rfl, rfl⟩ := hv
 exact ⟨⟨Nat.le_refl _, fun _ _ _ => rfl⟩, [], .ret, _, [.bool true], fun _ _ h => h, sebA hT hE hG, by simp, rfl, rfl, rfl, rfl⟩
end Go.Proofs.Tryz
namespace Go.Proofs.Tryz
open Go.Ad
open Go.Lib (decDigits itoa nDigits decFrom digitVal)
theorem tab_laid {W : World} {a b : String × DataW Unit} {r : List (String × DataW Unit)} (h : laidMet prog (a :: b :: ("internal/strconv.uint64pow10", Lib.tabData .u64 Lib.pow10Tab) :: r) W) :
  Lib.TabIs prog W "internal/strconv.uint64pow10" .u64 Lib.pow10Tab :=
 Lib.tabIs_of_head (g := 1) (t := 184) (e := 149) (n := 20) (by kernel_rfl) (by kernel_rfl) (by kernel_rfl) (by kernel_rfl) (by kernel_rfl) (by kernel_rfl) (laidVars_tail (laidVars_tail h))
theorem iface_of_head {P : Program} {W : World} {name n : String} {d : DataW Unit} {rest : List (String × DataW Unit)} {g : Nat} {t : TypeId} {ms}
  (hg : P.globalNamed name = some g) (hty : (P.globals[g]?).map (·.type) = some t) (ht : P.underlying t = some (.interface ms)) (h : laidMet P ((name, .iface n d) :: rest) W) : ∃ tp p, W.cell? ⟨g, 0, none⟩ = some (.iface tp p) := by
 obtain ⟨ps, ⟨g', t', cs, fuel, p, q, hg', ht', hvar, hd, _, _⟩, _⟩ := h
 obtain rfl := Option.some.inj (hg.symm.trans hg')
 obtain rfl := Option.some.inj (hty.symm.trans ht')
 have hc := World.var?_cell hg hvar 0
 cases fuel with
 | zero => simp [DataW.trod] at hd
 | succ fuel =>
  unfold DataW.trod at hd
  rw [ht] at hd
  obtain ⟨l⟩ := cs
  match l, hd with
  | [.iface tp p], _ => exact ⟨tp, p, hc⟩
  | .nilIface :: r, hd => cases r <;> simp at hd
theorem tabE_of {W : World} {a b c d e : String × DataW Unit} {n : String} {x : DataW Unit} {r : List (String × DataW Unit)} (hG : prog.globals.size ≤ W.heap.size) (h : laidMet prog (a :: b :: c :: d :: e :: ("strconv.ErrSyntax", .iface n x) :: r) W) : TabE (ambOf W) := fun w hw => by
 obtain ⟨tp, p, hc⟩ := iface_of_head (g := 2) (t := 90) (ms := #[("Error", 129)]) (by kernel_rfl) (by kernel_rfl) (by kernel_rfl) (laidVars_tail (laidVars_tail (laidVars_tail (laidVars_tail (laidVars_tail h)))))
 have h2 : 2 < W.heap.size := Nat.lt_of_lt_of_le (by rw [gsz]; omega) hG
 refine ⟨tp, p, ?_⟩
 have e2 : w.heap[2]? = W.heap[2]? := hw 2 h2
 unfold World.cell? at hc ⊢
 rw [← hc]
 simp only [e2]
end Go.Proofs.Tryz
namespace Go.Proofs.Tryz
open Go.Ad
open Go.Lib (decDigits itoa nDigits decFrom digitVal)
def unR (w : List UInt8) : Int × Int :=
 bif [117, 109] == w then (0, 0) else bif [109, 109] == w then (1, 0) else bif [99, 109] == w then (2, 0) else bif [105, 110] == w then (3, 0) else bif [116, 104, 111, 117] == w then (4, 0) else (0, 20)
def woR (u : Int) : List UInt8 × Int := if u < 0 ∨ u > 4 then ([], 20) else (wT u.toNat, 0)
noncomputable abbrev unK (w : List UInt8) : Option (List Lf) :=
 brK ([117, 109] == w) (some [.i 0, .i 0]) (brK ([109, 109] == w) (some [.i 1, .i 0]) (brK ([99, 109] == w) (some [.i 2, .i 0]) (brK ([105, 110] == w) (some [.i 3, .i 0]) (brK ([116, 104, 111, 117] == w) (some [.i 4, .i 0]) (some [.i 0, .i 20])))))
theorem unK_eq (w : List UInt8) : unK w = some [.i (unR w).1, .i (unR w).2] := by
 unfold unR
 show unK w = _
 unfold unK
 cases ([117, 109] == w) with
 | true => rfl
 | false =>
  cases ([109, 109] == w) with
  | true => rfl
  | false =>
   cases ([99, 109] == w) with
   | true => rfl
   | false =>
    cases ([105, 110] == w) with
    | true => rfl
    | false => cases ([116, 104, 111, 117] == w) <;> rfl
theorem run15 (w : List UInt8) : (runK prog pF4 60).call 15 (spS1.rho [.s w]) (spS1.heap [.s w]) (finQ spI2 8 []) = unK w := by kernel_rfl
theorem run16 (w : List UInt8) : (runK prog pF4 60).call 16 (spS1.rho [.s w]) (spS1.heap [.s w]) (finQ spI2 8 []) = unK w := by kernel_rfl
def spU1 : SP := ⟨[.int .i64], dd8⟩
noncomputable abbrev woF (u : Int) : Option (List Lf) := woK u fun w => some [.s w, .i 0]
theorem run17 (u : Int) : (runK prog pF4 60).call 17 (spU1.rho [.i u]) (spU1.heap [.i u]) (finQ spRI 8 []) = brK (decide (u < 0)) (e2 20) (brK (decide (u ≥ 5)) (e2 20) (woF u)) := by kernel_rfl
theorem run18 (u : Int) : (runK prog pF4 60).call 18 (spU1.rho [.i u]) (spU1.heap [.i u]) (finQ spRI 8 []) = brK (decide (u < 0)) (e2 20) (brK (decide (u > 4)) (e2 20) (woF u)) := by kernel_rfl
theorem wo_gen {u : Int} {b : Bool} (hb : b = decide (u > 4)) : brK (decide (u < 0)) (e2 20) (brK b (e2 20) (woF u)) = some [.s (woR u).1, .i (woR u).2] := by
 subst hb
 unfold woR
 by_cases h3 : u < 0
 ·rw [decide_eq_true h3, if_pos (.inl h3)]; rfl
 ·rw [decide_eq_false h3, brK_f]
  by_cases h4 : u > 4
  ·rw [decide_eq_true h4, if_pos (.inr h4)]; rfl
  ·rw [decide_eq_false h4, brK_f, if_neg (by omega)]
   obtain ⟨u, rfl⟩ := Int.eq_ofNat_of_zero_le (show 0 ≤ u by omega)
   have hu : u ≤ 4 := by omega
   match u, hu with
   | 0, _ => rfl
   | 1, _ => rfl
   | 2, _ => rfl
   | 3, _ => rfl
   | 4, _ => rfl
noncomputable def TUn : List Lf → Tr (SP × List Lf)
 | [.s w] => .leaf (spI2, [.i (unR w).1, .i (unR w).2])
 | _ => .fail
noncomputable def TWo : List Lf → Tr (SP × List Lf)
 | [.i u] => .leaf (spRI, [.s (woR u).1, .i (woR u).2])
 | _ => .fail
noncomputable def pL1 : Prims := (((pF4.addh 15 (liftG 8 (funQ spS1 8 [] TUn))).addh 16 (liftG 8 (funQ spS1 8 [] TUn))).addh 17 (liftG 8 (funQ spU1 8 [] TWo))).addh 18 (liftG 8 (funQ spU1 8 [] TWo))
noncomputable abbrev pLw : Prims := withAwake pL1
section
variable {A : Amb} (hT : Tab A) (hE : TabE A) (hG : prog.globals.size ≤ A.G)
include hT hE hG
theorem pL1_ok : PrimOK prog A pL1 := by
 have hp := pF4_ok hT hE hG
 have hw : ∀ (ls : List Lf) (sq : SP) (l : List Lf), (TUn ls).get = some (sq, l) → ∃ w, ls = [.s w] ∧ sq = spI2 ∧ l = [.i (unR w).1, .i (unR w).2] := fun ls sq l h => by
  unfold TUn at h
  split at h
  ·cases h; exact ⟨_, rfl, rfl, rfl⟩
  ·cases h
 have hu : ∀ (ls : List Lf) (sq : SP) (l : List Lf), (TWo ls).get = some (sq, l) → ∃ u, ls = [.i u] ∧ sq = spRI ∧ l = [.s (woR u).1, .i (woR u).2] := fun ls sq l h => by
  unfold TWo at h
  split at h
  ·cases h; exact ⟨_, rfl, rfl, rfl⟩
  ·cases h
 refine (((hp.addl gsz func15 (by kernel_rfl) (funQ_ok hmix hnum rfl fun ls sq l h => ?_)).addl gsz func16 (by kernel_rfl) (funQ_ok hmix hnum rfl fun ls sq l h => ?_)).addl gsz func17 (by kernel_rfl) (funQ_ok hmix hnum rfl fun ls sq l h => ?_)).addl gsz func18 (by kernel_rfl) (funQ_ok hmix hnum rfl fun ls sq l h => ?_)
 ·obtain ⟨w, rfl, rfl, rfl⟩ := hw ls sq l h
  exact ⟨fr8 rfl rfl, rfl, pF4, 60, _, hp, (run15 w).trans (unK_eq w), fun _ _ => .refl⟩
 ·obtain ⟨w, rfl, rfl, rfl⟩ := hw ls sq l h
  exact ⟨fr8 rfl rfl, rfl, pF4, 60, _, hp, (run16 w).trans (unK_eq w), fun _ _ => .refl⟩
 ·obtain ⟨u, rfl, rfl, rfl⟩ := hu ls sq l h
  exact ⟨fr8 rfl rfl, rfl, pF4, 60, _, hp, (run17 u).trans (wo_gen (by rw [decide_eq_decide]; omega)), fun _ _ => .refl⟩
 ·obtain ⟨u, rfl, rfl, rfl⟩ := hu ls sq l h
  exact ⟨fr8 rfl rfl, rfl, pF4, 60, _, hp, (run18 u).trans (wo_gen rfl), fun _ _ => .refl⟩
theorem pLw_ok : PrimOK prog A pLw := withAwake_ok hT hE hG (pL1_ok hT hE hG)
end
noncomputable abbrev awK : Option Unit := brK (propB (([] : List AV) = [] ∧ Bg 8 = Bg 8)) (some ()) none
theorem awK_eq : awK = some () := by unfold awK; rw [propB_true ⟨rfl, rfl⟩]; rfl
theorem law3 (s : List UInt8) : (runK prog pLw 60).call 3 [.sstr s] (Bg 8) goodK =
  brK (decide ((s.length : Int) > 100)) awK (brK (szOK s) (brK (szOK s) (brK (szOK s) (brK (szOK s) (brK (propB (([] : List AV) = [] ∧ Bg 8 = Bg 8)) (brK ((exR s).1 == (exR s).1) (brK ((exR s).2 == (exR s).2) (brK ((parR s).1 == (parR s).1) (brK ((parR s).2 == (parR s).2) (some ()) none) none) none) none) none) none) none) none) none) := by kernel_rfl
theorem unitsReads (b : ByteArray) (W : World) (hG : prog.globals.size ≤ W.heap.size) (hT : Tab (ambOf W)) (hE : TabE (ambOf W)) :
  Calls prog 3 #[.string b] W fun e W' => e = .returned (.bool true) ∧ RowKit.Below W.heap.size W W' := by
 refine law_of_K hmix hnum (pLw_ok hT hE hG) hG (n := 60) (args := [.sstr b.data.toList]) ?_ rfl (iotaG 8) _ ?_
 ·rw [gsz]
  refine (law3 _).trans ?_
  generalize b.data.toList = s
  by_cases h : s.length > 100
  ·rw [decide_eq_true (show (s.length : Int) > 100 by omega), brK_t]; exact awK_eq
  ·rw [decide_eq_false (show ¬ (s.length : Int) > 100 by omega), show szOK s = true from decide_eq_true (by omega), propB_true ⟨rfl, rfl⟩]
   simp [brK]
 ·simp only [VRL, VR]
  exact ⟨_, _, rfl, ⟨b, rfl, rfl⟩, rfl⟩
end Go.Proofs.Tryz
