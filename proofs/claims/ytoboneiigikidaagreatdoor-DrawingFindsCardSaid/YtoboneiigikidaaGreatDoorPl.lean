/- Drawings: plain frames. -/
import Derived.Test.YtoboneiigikidaaGreatDoorBase
noncomputable section
namespace Go.Proofs.Tryz
open Go.Ad
def E5o:Blk:=fun _ _=>.fail
theorem D0x{A:Amb}{q:Prims}(hq:PrimOK prog A q){f:FuncId}{id:Nat}{fn:Func}{c body:Code}(hf:prog.funcs[f]?=some fn)(hc:fn.body=some c)(hb:(blocks c).filter (fun p=>p.1==id)=[(id,body)]):PrimOK prog A (q.addb f id E5o) :=
 hq.addb hf hc hb fun _ _ _ _ _ _ h=>by cases h
def B5l(a:Dat)(tw:Prop)[Decidable tw](r:Int):Int:=if G7 a.s≠0 then G7 a.s else if tw then 7 else if a.m<0 \/ a.m >= 3 then 1 else r
def A2i:List Dat->Int
 | []=>0
 | [a]=>B5l a False 0
 | [a,b]=>B5l a False (B5l b (a.s=b.s) 0)
 | [a,b,c]=>B5l a False (B5l b (a.s=b.s) (B5l c (a.s=c.s \/ b.s=c.s) 0))
 | _=>5
def K8(x:Frm):Int:=if x.k<0 \/ x.k >= 9 then 1 else if x.m<0 \/ x.m >= 3 then 1 else if x.t<0 \/ x.t>100000 then 2 else A2i x.l
def szD(l:List Dat):Bool:=l.all fun a=>I9 a.s
def D7f:Prims:=(pFe.addb 166 1 E5o).addb 237 0 E5o
theorem F1a(k:Int)(u:Bool)(t m:Int):(D5 prog pFe 60).call 166 [.agg (Frm.av ⟨k,u,t,m,[]⟩)] (Bg 8) F8 =
  brK (decide (k<0)) (some (.int .i64 1)) (brK (decide (k >= 9)) (some (.int .i64 1)) (brK (decide (m<0)) (some (.int .i64 1)) (brK (decide (m >= 3)) (some (.int .i64 1)) (brK (decide (t<0)) (some (.int .i64 2)) (brK (decide (t>100000)) (some (.int .i64 2)) (some (.int .i64 0))))))):=by kernel_rfl
theorem F5o(k:Int)(u:Bool)(t m:Int):∃ v,(D5 prog pFe 60).call 166 [.agg (Frm.av ⟨k,u,t,m,[]⟩)] (Bg 8) F8=some v/\O9 (K8 ⟨k,u,t,m,[]⟩) v:=by
 rw[F1a]
 by_cases c1:k<0
 rotate_left
 by_cases c2:k >= 9
 rotate_left
 by_cases c3:m<0
 rotate_left
 by_cases c4:m >= 3
 rotate_left
 by_cases c5:t<0
 rotate_left
 by_cases c6:t>100000
 rotate_left
 all_goals
  apply exV
  focus
   repeat first
    | exact rfl
    | refine A8 rfl ?_
    | refine C8 rfl ?_
    | refine A8 (by simp only[SBs]; omega) ?_
    | refine C8 (by simp only[SBs]; omega) ?_
  focus
   first
    | apply viI
    | apply viS
   dsimp only [K8,A2i]
   repeat first
    | exact rfl
    | refine J3 (by omega) ?_
    | refine G6 (by omega) ?_
theorem F1b(k:Int)(u:Bool)(t m:Int)(a:Dat):(D5 prog pFe 60).call 166 [.agg (Frm.av ⟨k,u,t,m,[a]⟩)] (Bg 8) F8 =
  brK (decide (k<0)) (some (.int .i64 1)) (brK (decide (k >= 9)) (some (.int .i64 1)) (brK (decide (m<0)) (some (.int .i64 1)) (brK (decide (m >= 3)) (some (.int .i64 1)) (brK (decide (t<0)) (some (.int .i64 2)) (brK (decide (t>100000)) (some (.int .i64 2)) (brK (I9 a.s) (brK (G7 a.s != 0) (some (.sint IntKind.i64 (G7 a.s))) (brK (decide (a.m<0)) (some (.int .i64 1)) (brK (decide (a.m >= 3)) (some (.int .i64 1)) (some (.int .i64 0))))) none)))))):=by kernel_rfl
theorem F5p(k:Int)(u:Bool)(t m:Int)(a:Dat)(hza:I9 a.s=true):∃ v,(D5 prog pFe 60).call 166 [.agg (Frm.av ⟨k,u,t,m,[a]⟩)] (Bg 8) F8=some v/\O9 (K8 ⟨k,u,t,m,[a]⟩) v:=by
 rw[F1b]
 by_cases c1:k<0
 rotate_left
 by_cases c2:k >= 9
 rotate_left
 by_cases c3:m<0
 rotate_left
 by_cases c4:m >= 3
 rotate_left
 by_cases c5:t<0
 rotate_left
 by_cases c6:t>100000
 rotate_left
 by_cases c7:G7 a.s≠0
 rotate_left
 by_cases c8:a.m<0
 rotate_left
 by_cases c9:a.m >= 3
 rotate_left
 all_goals
  apply exV
  focus
   repeat first
    | exact rfl
    | refine A8 rfl ?_
    | refine C8 rfl ?_
    | refine A8 (by simp only[SBs]; omega) ?_
    | refine C8 (by simp only[SBs]; omega) ?_
    | refine A8 hza ?_
  focus
   first
    | apply viI
    | apply viS
   dsimp only [K8,A2i,B5l]
   repeat first
    | exact rfl
    | refine J3 (by omega) ?_
    | refine G6 (by omega) ?_
    | refine G6 (fun h=>h) ?_
theorem F1c(k:Int)(u:Bool)(t m:Int)(a b:Dat):(D5 prog pFe 60).call 166 [.agg (Frm.av ⟨k,u,t,m,[a,b]⟩)] (Bg 8) F8 =
  brK (decide (k<0)) (some (.int .i64 1)) (brK (decide (k >= 9)) (some (.int .i64 1)) (brK (decide (m<0)) (some (.int .i64 1)) (brK (decide (m >= 3)) (some (.int .i64 1)) (brK (decide (t<0)) (some (.int .i64 2)) (brK (decide (t>100000)) (some (.int .i64 2)) (brK (I9 a.s) (brK (G7 a.s != 0) (some (.sint IntKind.i64 (G7 a.s))) (brK (decide (a.m<0)) (some (.int .i64 1)) (brK (decide (a.m >= 3)) (some (.int .i64 1)) (brK (I9 b.s) (brK (G7 b.s != 0) (some (.sint IntKind.i64 (G7 b.s))) (brK (a.s==b.s) (some (.int .i64 7)) (brK (decide (b.m<0)) (some (.int .i64 1)) (brK (decide (b.m >= 3)) (some (.int .i64 1)) (some (.int .i64 0)))))) none)))) none)))))):=by kernel_rfl
theorem F5q(k:Int)(u:Bool)(t m:Int)(a b:Dat)(hza:I9 a.s=true)(hzb:I9 b.s=true):∃ v,(D5 prog pFe 60).call 166 [.agg (Frm.av ⟨k,u,t,m,[a,b]⟩)] (Bg 8) F8=some v/\O9 (K8 ⟨k,u,t,m,[a,b]⟩) v:=by
 rw[F1c]
 by_cases c1:k<0
 rotate_left
 by_cases c2:k >= 9
 rotate_left
 by_cases c3:m<0
 rotate_left
 by_cases c4:m >= 3
 rotate_left
 by_cases c5:t<0
 rotate_left
 by_cases c6:t>100000
 rotate_left
 by_cases c7:G7 a.s≠0
 rotate_left
 by_cases c8:a.m<0
 rotate_left
 by_cases c9:a.m >= 3
 rotate_left
 by_cases c10:G7 b.s≠0
 rotate_left
 by_cases c11:a.s=b.s
 rotate_left
 by_cases c12:b.m<0
 rotate_left
 by_cases c13:b.m >= 3
 rotate_left
 all_goals
  apply exV
  focus
   repeat first
    | exact rfl
    | refine A8 rfl ?_
    | refine C8 rfl ?_
    | refine A8 (by simp only[SBs]; omega) ?_
    | refine C8 (by simp only[SBs]; omega) ?_
    | refine A8 hza ?_
    | refine A8 hzb ?_
    | refine A8 (beq_iff_eq.2 c11) ?_
    | refine C8 (beq_eq_false_iff_ne.2 c11) ?_
  focus
   first
    | apply viI
    | apply viS
   dsimp only [K8,A2i,B5l]
   repeat first
    | exact rfl
    | refine J3 (by omega) ?_
    | refine G6 (by omega) ?_
    | refine G6 (fun h=>h) ?_
    | refine J3 c11 ?_
    | refine G6 c11 ?_
theorem F1d(k:Int)(u:Bool)(t m:Int)(a b c:Dat):(D5 prog pFe 60).call 166 [.agg (Frm.av ⟨k,u,t,m,[a,b,c]⟩)] (Bg 8) F8 =
  brK (decide (k<0)) (some (.int .i64 1)) (brK (decide (k >= 9)) (some (.int .i64 1)) (brK (decide (m<0)) (some (.int .i64 1)) (brK (decide (m >= 3)) (some (.int .i64 1)) (brK (decide (t<0)) (some (.int .i64 2)) (brK (decide (t>100000)) (some (.int .i64 2)) (brK (I9 a.s) (brK (G7 a.s != 0) (some (.sint IntKind.i64 (G7 a.s))) (brK (decide (a.m<0)) (some (.int .i64 1)) (brK (decide (a.m >= 3)) (some (.int .i64 1)) (brK (I9 b.s) (brK (G7 b.s != 0) (some (.sint IntKind.i64 (G7 b.s))) (brK (a.s==b.s) (some (.int .i64 7)) (brK (decide (b.m<0)) (some (.int .i64 1)) (brK (decide (b.m >= 3)) (some (.int .i64 1)) (brK (I9 c.s) (brK (G7 c.s != 0) (some (.sint IntKind.i64 (G7 c.s))) (brK (a.s==c.s) (some (.int .i64 7)) (brK (b.s==c.s) (some (.int .i64 7)) (brK (decide (c.m<0)) (some (.int .i64 1)) (brK (decide (c.m >= 3)) (some (.int .i64 1)) (some (.int .i64 0))))))) none))))) none)))) none)))))):=by kernel_rfl
theorem F5r(k:Int)(u:Bool)(t m:Int)(a b c:Dat)(hza:I9 a.s=true)(hzb:I9 b.s=true)(hzc:I9 c.s=true):∃ v,(D5 prog pFe 60).call 166 [.agg (Frm.av ⟨k,u,t,m,[a,b,c]⟩)] (Bg 8) F8=some v/\O9 (K8 ⟨k,u,t,m,[a,b,c]⟩) v:=by
 rw[F1d]
 by_cases c1:k<0
 rotate_left
 by_cases c2:k >= 9
 rotate_left
 by_cases c3:m<0
 rotate_left
 by_cases c4:m >= 3
 rotate_left
 by_cases c5:t<0
 rotate_left
 by_cases c6:t>100000
 rotate_left
 by_cases c7:G7 a.s≠0
 rotate_left
 by_cases c8:a.m<0
 rotate_left
 by_cases c9:a.m >= 3
 rotate_left
 by_cases c10:G7 b.s≠0
 rotate_left
 by_cases c11:a.s=b.s
 rotate_left
 by_cases c12:b.m<0
 rotate_left
 by_cases c13:b.m >= 3
 rotate_left
 by_cases c14:G7 c.s≠0
 rotate_left
 by_cases c15:a.s=c.s
 rotate_left
 by_cases c16:b.s=c.s
 rotate_left
 by_cases c17:c.m<0
 rotate_left
 by_cases c18:c.m >= 3
 rotate_left
 all_goals
  apply exV
  focus
   repeat first
    | exact rfl
    | refine A8 rfl ?_
    | refine C8 rfl ?_
    | refine A8 (by simp only[SBs]; omega) ?_
    | refine C8 (by simp only[SBs]; omega) ?_
    | refine A8 hza ?_
    | refine A8 hzb ?_
    | refine A8 hzc ?_
    | refine A8 (beq_iff_eq.2 c11) ?_
    | refine C8 (beq_eq_false_iff_ne.2 c11) ?_
    | refine A8 (beq_iff_eq.2 c15) ?_
    | refine C8 (beq_eq_false_iff_ne.2 c15) ?_
    | refine A8 (beq_iff_eq.2 c16) ?_
    | refine C8 (beq_eq_false_iff_ne.2 c16) ?_
  focus
   first
    | apply viI
    | apply viS
   dsimp only [K8,A2i,B5l]
   repeat first
    | exact rfl
    | refine J3 (by omega) ?_
    | refine G6 (by omega) ?_
    | refine G6 (fun h=>h) ?_
    | refine J3 c11 ?_
    | refine G6 c11 ?_
    | refine J3 c15 ?_
    | refine G6 c15 ?_
    | refine J3 (.inl c15) ?_
    | refine J3 c16 ?_
    | refine G6 c16 ?_
    | refine J3 (.inr c16) ?_
    | refine G6 (fun h=>h.elim c15 c16) ?_
theorem F1e(x:Frm):(D5 prog D7f 60).call 166 [.agg x.av] (Bg 8) F8 =
  brK (decide (x.k<0)) (some (.int .i64 1)) (brK (decide (x.k >= 9)) (some (.int .i64 1)) (brK (decide (x.m<0)) (some (.int .i64 1)) (brK (decide (x.m >= 3)) (some (.int .i64 1)) (brK (decide (x.t<0)) (some (.int .i64 2)) (brK (decide (x.t>100000)) (some (.int .i64 2)) (brK (decide ((x.l.length:Int)>3)) (some (.int .i64 5)) none)))))):=by kernel_rfl
theorem F5s(x:Frm)(hl:x.l.length>3)(h5:A2i x.l=5):∃ v,(D5 prog D7f 60).call 166 [.agg x.av] (Bg 8) F8=some v/\O9 (K8 x) v:=by
 rw[F1e]
 by_cases c1:x.k<0
 rotate_left
 by_cases c2:x.k >= 9
 rotate_left
 by_cases c3:x.m<0
 rotate_left
 by_cases c4:x.m >= 3
 rotate_left
 by_cases c5:x.t<0
 rotate_left
 by_cases c6:x.t>100000
 rotate_left
 all_goals
  apply exV
  focus
   repeat first
    | exact rfl
    | refine A8 rfl ?_
    | refine C8 rfl ?_
    | refine A8 (by simp only[SBs]; omega) ?_
    | refine C8 (by simp only[SBs]; omega) ?_
  focus
   first
    | apply viI
    | apply viS
   dsimp only [K8]
   repeat first
    | exact rfl
    | refine J3 (by omega) ?_
    | refine G6 (by omega) ?_
    | exact h5
theorem F1f(k:Int)(u:Bool)(t m:Int):(D5 prog pFe 60).call 201 [.agg (Frm.av ⟨k,u,t,m,[]⟩)] (Bg 8) F8 =
  brK (decide (k<0)) (some (.int .i64 1)) (brK (decide (k >= 9)) (some (.int .i64 1)) (brK (decide (m<0)) (some (.int .i64 1)) (brK (decide (m >= 3)) (some (.int .i64 1)) (brK (decide (t<0)) (some (.int .i64 2)) (brK (decide (t>100000)) (some (.int .i64 2)) (some (.int .i64 0))))))):=by kernel_rfl
theorem F5t(k:Int)(u:Bool)(t m:Int):∃ v,(D5 prog pFe 60).call 201 [.agg (Frm.av ⟨k,u,t,m,[]⟩)] (Bg 8) F8=some v/\O9 (K8 ⟨k,u,t,m,[]⟩) v:=by
 rw[F1f]
 by_cases c1:k<0
 rotate_left
 by_cases c2:k >= 9
 rotate_left
 by_cases c3:m<0
 rotate_left
 by_cases c4:m >= 3
 rotate_left
 by_cases c5:t<0
 rotate_left
 by_cases c6:t>100000
 rotate_left
 all_goals
  apply exV
  focus
   repeat first
    | exact rfl
    | refine A8 rfl ?_
    | refine C8 rfl ?_
    | refine A8 (by simp only[SBs]; omega) ?_
    | refine C8 (by simp only[SBs]; omega) ?_
  focus
   first
    | apply viI
    | apply viS
   dsimp only [K8,A2i]
   repeat first
    | exact rfl
    | refine J3 (by omega) ?_
    | refine G6 (by omega) ?_
theorem F1g(k:Int)(u:Bool)(t m:Int)(a:Dat):(D5 prog pFe 60).call 201 [.agg (Frm.av ⟨k,u,t,m,[a]⟩)] (Bg 8) F8 =
  brK (decide (k<0)) (some (.int .i64 1)) (brK (decide (k >= 9)) (some (.int .i64 1)) (brK (decide (m<0)) (some (.int .i64 1)) (brK (decide (m >= 3)) (some (.int .i64 1)) (brK (decide (t<0)) (some (.int .i64 2)) (brK (decide (t>100000)) (some (.int .i64 2)) (brK (I9 a.s) (brK (G7 a.s != 0) (some (.sint IntKind.i64 (G7 a.s))) (brK (decide (a.m<0)) (some (.int .i64 1)) (brK (decide (a.m >= 3)) (some (.int .i64 1)) (some (.int .i64 0))))) none)))))):=by kernel_rfl
theorem F5u(k:Int)(u:Bool)(t m:Int)(a:Dat)(hza:I9 a.s=true):∃ v,(D5 prog pFe 60).call 201 [.agg (Frm.av ⟨k,u,t,m,[a]⟩)] (Bg 8) F8=some v/\O9 (K8 ⟨k,u,t,m,[a]⟩) v:=by
 rw[F1g]
 by_cases c1:k<0
 rotate_left
 by_cases c2:k >= 9
 rotate_left
 by_cases c3:m<0
 rotate_left
 by_cases c4:m >= 3
 rotate_left
 by_cases c5:t<0
 rotate_left
 by_cases c6:t>100000
 rotate_left
 by_cases c7:G7 a.s≠0
 rotate_left
 by_cases c8:a.m<0
 rotate_left
 by_cases c9:a.m >= 3
 rotate_left
 all_goals
  apply exV
  focus
   repeat first
    | exact rfl
    | refine A8 rfl ?_
    | refine C8 rfl ?_
    | refine A8 (by simp only[SBs]; omega) ?_
    | refine C8 (by simp only[SBs]; omega) ?_
    | refine A8 hza ?_
  focus
   first
    | apply viI
    | apply viS
   dsimp only [K8,A2i,B5l]
   repeat first
    | exact rfl
    | refine J3 (by omega) ?_
    | refine G6 (by omega) ?_
    | refine G6 (fun h=>h) ?_
theorem F1h(k:Int)(u:Bool)(t m:Int)(a b:Dat):(D5 prog pFe 60).call 201 [.agg (Frm.av ⟨k,u,t,m,[a,b]⟩)] (Bg 8) F8 =
  brK (decide (k<0)) (some (.int .i64 1)) (brK (decide (k >= 9)) (some (.int .i64 1)) (brK (decide (m<0)) (some (.int .i64 1)) (brK (decide (m >= 3)) (some (.int .i64 1)) (brK (decide (t<0)) (some (.int .i64 2)) (brK (decide (t>100000)) (some (.int .i64 2)) (brK (I9 a.s) (brK (G7 a.s != 0) (some (.sint IntKind.i64 (G7 a.s))) (brK (decide (a.m<0)) (some (.int .i64 1)) (brK (decide (a.m >= 3)) (some (.int .i64 1)) (brK (I9 b.s) (brK (G7 b.s != 0) (some (.sint IntKind.i64 (G7 b.s))) (brK (a.s==b.s) (some (.int .i64 7)) (brK (decide (b.m<0)) (some (.int .i64 1)) (brK (decide (b.m >= 3)) (some (.int .i64 1)) (some (.int .i64 0)))))) none)))) none)))))):=by kernel_rfl
theorem F5v(k:Int)(u:Bool)(t m:Int)(a b:Dat)(hza:I9 a.s=true)(hzb:I9 b.s=true):∃ v,(D5 prog pFe 60).call 201 [.agg (Frm.av ⟨k,u,t,m,[a,b]⟩)] (Bg 8) F8=some v/\O9 (K8 ⟨k,u,t,m,[a,b]⟩) v:=by
 rw[F1h]
 by_cases c1:k<0
 rotate_left
 by_cases c2:k >= 9
 rotate_left
 by_cases c3:m<0
 rotate_left
 by_cases c4:m >= 3
 rotate_left
 by_cases c5:t<0
 rotate_left
 by_cases c6:t>100000
 rotate_left
 by_cases c7:G7 a.s≠0
 rotate_left
 by_cases c8:a.m<0
 rotate_left
 by_cases c9:a.m >= 3
 rotate_left
 by_cases c10:G7 b.s≠0
 rotate_left
 by_cases c11:a.s=b.s
 rotate_left
 by_cases c12:b.m<0
 rotate_left
 by_cases c13:b.m >= 3
 rotate_left
 all_goals
  apply exV
  focus
   repeat first
    | exact rfl
    | refine A8 rfl ?_
    | refine C8 rfl ?_
    | refine A8 (by simp only[SBs]; omega) ?_
    | refine C8 (by simp only[SBs]; omega) ?_
    | refine A8 hza ?_
    | refine A8 hzb ?_
    | refine A8 (beq_iff_eq.2 c11) ?_
    | refine C8 (beq_eq_false_iff_ne.2 c11) ?_
  focus
   first
    | apply viI
    | apply viS
   dsimp only [K8,A2i,B5l]
   repeat first
    | exact rfl
    | refine J3 (by omega) ?_
    | refine G6 (by omega) ?_
    | refine G6 (fun h=>h) ?_
    | refine J3 c11 ?_
    | refine G6 c11 ?_
theorem F1i(k:Int)(u:Bool)(t m:Int)(a b c:Dat):(D5 prog pFe 60).call 201 [.agg (Frm.av ⟨k,u,t,m,[a,b,c]⟩)] (Bg 8) F8 =
  brK (decide (k<0)) (some (.int .i64 1)) (brK (decide (k >= 9)) (some (.int .i64 1)) (brK (decide (m<0)) (some (.int .i64 1)) (brK (decide (m >= 3)) (some (.int .i64 1)) (brK (decide (t<0)) (some (.int .i64 2)) (brK (decide (t>100000)) (some (.int .i64 2)) (brK (I9 a.s) (brK (G7 a.s != 0) (some (.sint IntKind.i64 (G7 a.s))) (brK (decide (a.m<0)) (some (.int .i64 1)) (brK (decide (a.m >= 3)) (some (.int .i64 1)) (brK (I9 b.s) (brK (G7 b.s != 0) (some (.sint IntKind.i64 (G7 b.s))) (brK (a.s==b.s) (some (.int .i64 7)) (brK (decide (b.m<0)) (some (.int .i64 1)) (brK (decide (b.m >= 3)) (some (.int .i64 1)) (brK (I9 c.s) (brK (G7 c.s != 0) (some (.sint IntKind.i64 (G7 c.s))) (brK (a.s==c.s) (some (.int .i64 7)) (brK (b.s==c.s) (some (.int .i64 7)) (brK (decide (c.m<0)) (some (.int .i64 1)) (brK (decide (c.m >= 3)) (some (.int .i64 1)) (some (.int .i64 0))))))) none))))) none)))) none)))))):=by kernel_rfl
theorem F5w(k:Int)(u:Bool)(t m:Int)(a b c:Dat)(hza:I9 a.s=true)(hzb:I9 b.s=true)(hzc:I9 c.s=true):∃ v,(D5 prog pFe 60).call 201 [.agg (Frm.av ⟨k,u,t,m,[a,b,c]⟩)] (Bg 8) F8=some v/\O9 (K8 ⟨k,u,t,m,[a,b,c]⟩) v:=by
 rw[F1i]
 by_cases c1:k<0
 rotate_left
 by_cases c2:k >= 9
 rotate_left
 by_cases c3:m<0
 rotate_left
 by_cases c4:m >= 3
 rotate_left
 by_cases c5:t<0
 rotate_left
 by_cases c6:t>100000
 rotate_left
 by_cases c7:G7 a.s≠0
 rotate_left
 by_cases c8:a.m<0
 rotate_left
 by_cases c9:a.m >= 3
 rotate_left
 by_cases c10:G7 b.s≠0
 rotate_left
 by_cases c11:a.s=b.s
 rotate_left
 by_cases c12:b.m<0
 rotate_left
 by_cases c13:b.m >= 3
 rotate_left
 by_cases c14:G7 c.s≠0
 rotate_left
 by_cases c15:a.s=c.s
 rotate_left
 by_cases c16:b.s=c.s
 rotate_left
 by_cases c17:c.m<0
 rotate_left
 by_cases c18:c.m >= 3
 rotate_left
 all_goals
  apply exV
  focus
   repeat first
    | exact rfl
    | refine A8 rfl ?_
    | refine C8 rfl ?_
    | refine A8 (by simp only[SBs]; omega) ?_
    | refine C8 (by simp only[SBs]; omega) ?_
    | refine A8 hza ?_
    | refine A8 hzb ?_
    | refine A8 hzc ?_
    | refine A8 (beq_iff_eq.2 c11) ?_
    | refine C8 (beq_eq_false_iff_ne.2 c11) ?_
    | refine A8 (beq_iff_eq.2 c15) ?_
    | refine C8 (beq_eq_false_iff_ne.2 c15) ?_
    | refine A8 (beq_iff_eq.2 c16) ?_
    | refine C8 (beq_eq_false_iff_ne.2 c16) ?_
  focus
   first
    | apply viI
    | apply viS
   dsimp only [K8,A2i,B5l]
   repeat first
    | exact rfl
    | refine J3 (by omega) ?_
    | refine G6 (by omega) ?_
    | refine G6 (fun h=>h) ?_
    | refine J3 c11 ?_
    | refine G6 c11 ?_
    | refine J3 c15 ?_
    | refine G6 c15 ?_
    | refine J3 (.inl c15) ?_
    | refine J3 c16 ?_
    | refine G6 c16 ?_
    | refine J3 (.inr c16) ?_
    | refine G6 (fun h=>h.elim c15 c16) ?_
theorem F1j(x:Frm):(D5 prog D7f 60).call 201 [.agg x.av] (Bg 8) F8 =
  brK (decide (x.k<0)) (some (.int .i64 1)) (brK (decide (x.k >= 9)) (some (.int .i64 1)) (brK (decide (x.m<0)) (some (.int .i64 1)) (brK (decide (x.m >= 3)) (some (.int .i64 1)) (brK (decide (x.t<0)) (some (.int .i64 2)) (brK (decide (x.t>100000)) (some (.int .i64 2)) (brK (decide ((x.l.length:Int)>3)) (some (.int .i64 5)) none)))))):=by kernel_rfl
theorem F5x(x:Frm)(hl:x.l.length>3)(h5:A2i x.l=5):∃ v,(D5 prog D7f 60).call 201 [.agg x.av] (Bg 8) F8=some v/\O9 (K8 x) v:=by
 rw[F1j]
 by_cases c1:x.k<0
 rotate_left
 by_cases c2:x.k >= 9
 rotate_left
 by_cases c3:x.m<0
 rotate_left
 by_cases c4:x.m >= 3
 rotate_left
 by_cases c5:x.t<0
 rotate_left
 by_cases c6:x.t>100000
 rotate_left
 all_goals
  apply exV
  focus
   repeat first
    | exact rfl
    | refine A8 rfl ?_
    | refine C8 rfl ?_
    | refine A8 (by simp only[SBs]; omega) ?_
    | refine C8 (by simp only[SBs]; omega) ?_
  focus
   first
    | apply viI
    | apply viS
   dsimp only [K8]
   repeat first
    | exact rfl
    | refine J3 (by omega) ?_
    | refine G6 (by omega) ?_
    | exact h5
theorem G8b(x:Frm)(hz:szD x.l=true):∃ v,((D5 prog pFe 60).call 166 [.agg x.av] (Bg 8) F8=some v \/ (D5 prog D7f 60).call 166 [.agg x.av] (Bg 8) F8=some v)/\O9 (K8 x) v:=by
 obtain⟨k,u,t,m,l⟩:=x
 match l with
 | [] =>
  obtain⟨v,h1,h2⟩:=F5o k u t m
  exact⟨v,.inl h1,h2⟩
 | [a] =>
  simp only[szD,List.all_cons,List.all_nil,bA] at hz
  obtain⟨v,h1,h2⟩:=F5p k u t m a hz.1
  exact⟨v,.inl h1,h2⟩
 | [a,b] =>
  simp only[szD,List.all_cons,List.all_nil,bA] at hz
  obtain⟨v,h1,h2⟩:=F5q k u t m a b hz.1 hz.2.1
  exact⟨v,.inl h1,h2⟩
 | [a,b,c] =>
  simp only[szD,List.all_cons,List.all_nil,bA] at hz
  obtain⟨v,h1,h2⟩:=F5r k u t m a b c hz.1 hz.2.1 hz.2.2.1
  exact⟨v,.inl h1,h2⟩
 | a::b::c::d::r =>
  obtain⟨v,h1,h2⟩:=F5s ⟨k,u,t,m,a::b::c::d::r⟩ (by simp) rfl
  exact⟨v,.inr h1,h2⟩
theorem G8c(x:Frm)(hz:szD x.l=true):∃ v,((D5 prog pFe 60).call 201 [.agg x.av] (Bg 8) F8=some v \/ (D5 prog D7f 60).call 201 [.agg x.av] (Bg 8) F8=some v)/\O9 (K8 x) v:=by
 obtain⟨k,u,t,m,l⟩:=x
 match l with
 | [] =>
  obtain⟨v,h1,h2⟩:=F5t k u t m
  exact⟨v,.inl h1,h2⟩
 | [a] =>
  simp only[szD,List.all_cons,List.all_nil,bA] at hz
  obtain⟨v,h1,h2⟩:=F5u k u t m a hz.1
  exact⟨v,.inl h1,h2⟩
 | [a,b] =>
  simp only[szD,List.all_cons,List.all_nil,bA] at hz
  obtain⟨v,h1,h2⟩:=F5v k u t m a b hz.1 hz.2.1
  exact⟨v,.inl h1,h2⟩
 | [a,b,c] =>
  simp only[szD,List.all_cons,List.all_nil,bA] at hz
  obtain⟨v,h1,h2⟩:=F5w k u t m a b c hz.1 hz.2.1 hz.2.2.1
  exact⟨v,.inl h1,h2⟩
 | a::b::c::d::r =>
  obtain⟨v,h1,h2⟩:=F5x ⟨k,u,t,m,a::b::c::d::r⟩ (by simp) rfl
  exact⟨v,.inr h1,h2⟩
theorem B1l{A:Amb}(hG:gN prog<=A.G){prims p1 p2:Prims}(h1:PrimOK prog A p1)(h2:PrimOK prog A p2)(hp:PrimOK prog A prims){f:FuncId}{fn:Func}{β:Type}(p:Par β)(V:β->Tr AV)(hf:prog.funcs[f]?=some fn)(hc:fn.body.isSome=true)(h:∀ x v,(V x).get=some v->∃ v',((D5 prog p1 60).call f (p.av x) (Bg 8) F8=some v' \/ (D5 prog p2 60).call f (p.av x) (Bg 8) F8=some v')/\F3 0 v'=true/\∀ Z y,VR Z v' y->VR Z v y):PrimOK prog A (prims.addt f (M8 p V)):=by
 refine PrimOK.addD F7 F9 hp hG hf hc fun args v hv=>?_
 unfold M8 at hv
 split at hv
 ·rename_i c x hx
  obtain⟨rfl,hv⟩:=Tr.br1 hv
  obtain⟨v',h3,h4,h5⟩:=h x v hv
  rcases h3 with h3 | h3
  ·obtain⟨B',hca⟩:=Ca.of_finV h3
   exact⟨p1,p.av x,v',B',h1,fun Z xs hx2=>p.ok hx hx2,h5,p.free x,h4,by rw[gsz]; exact hca⟩
  ·obtain⟨B',hca⟩:=Ca.of_finV h3
   exact⟨p2,p.av x,v',B',h2,fun Z xs hx2=>p.ok hx hx2,h5,p.free x,h4,by rw[gsz]; exact hca⟩
 ·cases hv
def VPl(x:Frm):Tr AV:=.br (szD x.l) (.leaf (.sint .i64 (K8 x))) .fail
def pPl:Prims:=(pFe.addt 166 (M8 C7j VPl)).addt 201 (M8 C7j VPl)
theorem E9m{A:Amb}(hT:Tab A)(hG:gN prog<=A.G):PrimOK prog A pPl:=by
 have h0:=D7g hT hG
 have hS:PrimOK prog A D7f:=D0x (D0x h0 func166 (show f166.body=some (f166.body.getD .skip) by kernel_rfl) (body:=.loop (I7 (J6 1 (f166.body.getD .skip)))) (by kernel_rfl)) func237 (show f237.body=some (f237.body.getD .skip) by kernel_rfl) (body:=.loop (I7 (J6 0 (f237.body.getD .skip)))) (by kernel_rfl)
 refine B1l hG h0 hS (B1l hG h0 hS h0 C7j VPl func166 (by kernel_rfl) fun x v hv=>?_) C7j VPl func201 (by kernel_rfl) fun x v hv=>?_
 ·obtain⟨hz,hv⟩:=Tr.br1 hv
  cases hv
  obtain⟨v',h1,h2⟩:=G8b x hz
  exact⟨v',h1,G9 h2,J9 h2⟩
 ·obtain⟨hz,hv⟩:=Tr.br1 hv
  cases hv
  obtain⟨v',h1,h2⟩:=G8c x hz
  exact⟨v',h1,G9 h2,J9 h2⟩
end Go.Proofs.Tryz
