/- Drawings: plain frames. -/
import Derived.Test.YtoboneiigikidaaGreatDoorBase
noncomputable section
namespace Go.Proofs.Tryz
open Go.Ad
def E5v:Blk:=fun _ _=>.fail
theorem D0w{A:Amb}{q:Prims}(hq:PrimOK prog A q){f:FuncId}{id:Nat}{fn:Func}{c body:Code}(hf:prog.funcs[f]?=some fn)(hc:fn.body=some c)(hb:(blocks c).filter (fun p=>p.1==id)=[(id,body)]):PrimOK prog A (q.addb f id E5v) :=
 hq.addb hf hc hb fun _ _ _ _ _ _ h=>by cases h
def B5r(a:Dat)(tw:Prop)[Decidable tw](r:Int):Int:=if H6 a.s≠0 then H6 a.s else if tw then 7 else if a.m<0 \/ a.m >= 3 then 1 else r
def A2y:List Dat->Int
 | []=>0
 | [a]=>B5r a False 0
 | [a,b]=>B5r a False (B5r b (a.s=b.s) 0)
 | [a,b,c]=>B5r a False (B5r b (a.s=b.s) (B5r c (a.s=c.s \/ b.s=c.s) 0))
 | _=>5
def L6(x:Frm):Int:=if x.k<0 \/ x.k >= 9 then 1 else if x.m<0 \/ x.m >= 3 then 1 else if x.t<0 \/ x.t>100000 then 2 else A2y x.l
def szD(l:List Dat):Bool:=l.all fun a=>I8 a.s
def D7k:Prims:=(pFe.addb 166 1 E5v).addb 237 0 E5v
theorem F1a(k:Int)(u:Bool)(t m:Int):(D6 prog pFe 60).call 166 [.agg (Frm.av ⟨k,u,t,m,[]⟩)] (Bg 8) G7 =
  brK (decide (k<0)) (some (.int .i64 1)) (brK (decide (k >= 9)) (some (.int .i64 1)) (brK (decide (m<0)) (some (.int .i64 1)) (brK (decide (m >= 3)) (some (.int .i64 1)) (brK (decide (t<0)) (some (.int .i64 2)) (brK (decide (t>100000)) (some (.int .i64 2)) (some (.int .i64 0))))))):=by kernel_rfl
theorem F5s(k:Int)(u:Bool)(t m:Int):∃ v,(D6 prog pFe 60).call 166 [.agg (Frm.av ⟨k,u,t,m,[]⟩)] (Bg 8) G7=some v/\T9 (L6 ⟨k,u,t,m,[]⟩) v:=by
 rw[F1a]
 by_cases c1:k<0
 rotate_left
 by_cases c2:k >= 9
 rotate_left
 by_cases c3:m<0
 rotate_left
 by_cases c4:m >= 3
 rotate_left
 by_cases c5:t<0
 rotate_left
 by_cases c6:t>100000
 rotate_left
 all_goals
  apply exV
  focus
   repeat first
    | exact rfl
    | refine A8 rfl ?_
    | refine C8 rfl ?_
    | refine A8 (by simp only[SBs]; omega) ?_
    | refine C8 (by simp only[SBs]; omega) ?_
  focus
   first
    | apply viI
    | apply viS
   dsimp only [L6,A2y]
   repeat first
    | exact rfl
    | refine J3 (by omega) ?_
    | refine H5 (by omega) ?_
theorem F1b(k:Int)(u:Bool)(t m:Int)(a:Dat):(D6 prog pFe 60).call 166 [.agg (Frm.av ⟨k,u,t,m,[a]⟩)] (Bg 8) G7 =
  brK (decide (k<0)) (some (.int .i64 1)) (brK (decide (k >= 9)) (some (.int .i64 1)) (brK (decide (m<0)) (some (.int .i64 1)) (brK (decide (m >= 3)) (some (.int .i64 1)) (brK (decide (t<0)) (some (.int .i64 2)) (brK (decide (t>100000)) (some (.int .i64 2)) (brK (I8 a.s) (brK (H6 a.s != 0) (some (.sint IntKind.i64 (H6 a.s))) (brK (decide (a.m<0)) (some (.int .i64 1)) (brK (decide (a.m >= 3)) (some (.int .i64 1)) (some (.int .i64 0))))) none)))))):=by kernel_rfl
theorem F5t(k:Int)(u:Bool)(t m:Int)(a:Dat)(hza:I8 a.s=true):∃ v,(D6 prog pFe 60).call 166 [.agg (Frm.av ⟨k,u,t,m,[a]⟩)] (Bg 8) G7=some v/\T9 (L6 ⟨k,u,t,m,[a]⟩) v:=by
 rw[F1b]
 by_cases c1:k<0
 rotate_left
 by_cases c2:k >= 9
 rotate_left
 by_cases c3:m<0
 rotate_left
 by_cases c4:m >= 3
 rotate_left
 by_cases c5:t<0
 rotate_left
 by_cases c6:t>100000
 rotate_left
 by_cases c7:H6 a.s≠0
 rotate_left
 by_cases c8:a.m<0
 rotate_left
 by_cases c9:a.m >= 3
 rotate_left
 all_goals
  apply exV
  focus
   repeat first
    | exact rfl
    | refine A8 rfl ?_
    | refine C8 rfl ?_
    | refine A8 (by simp only[SBs]; omega) ?_
    | refine C8 (by simp only[SBs]; omega) ?_
    | refine A8 hza ?_
  focus
   first
    | apply viI
    | apply viS
   dsimp only [L6,A2y,B5r]
   repeat first
    | exact rfl
    | refine J3 (by omega) ?_
    | refine H5 (by omega) ?_
    | refine H5 (fun h=>h) ?_
theorem F1c(k:Int)(u:Bool)(t m:Int)(a b:Dat):(D6 prog pFe 60).call 166 [.agg (Frm.av ⟨k,u,t,m,[a,b]⟩)] (Bg 8) G7 =
  brK (decide (k<0)) (some (.int .i64 1)) (brK (decide (k >= 9)) (some (.int .i64 1)) (brK (decide (m<0)) (some (.int .i64 1)) (brK (decide (m >= 3)) (some (.int .i64 1)) (brK (decide (t<0)) (some (.int .i64 2)) (brK (decide (t>100000)) (some (.int .i64 2)) (brK (I8 a.s) (brK (H6 a.s != 0) (some (.sint IntKind.i64 (H6 a.s))) (brK (decide (a.m<0)) (some (.int .i64 1)) (brK (decide (a.m >= 3)) (some (.int .i64 1)) (brK (I8 b.s) (brK (H6 b.s != 0) (some (.sint IntKind.i64 (H6 b.s))) (brK (a.s==b.s) (some (.int .i64 7)) (brK (decide (b.m<0)) (some (.int .i64 1)) (brK (decide (b.m >= 3)) (some (.int .i64 1)) (some (.int .i64 0)))))) none)))) none)))))):=by kernel_rfl
theorem F5u(k:Int)(u:Bool)(t m:Int)(a b:Dat)(hza:I8 a.s=true)(hzb:I8 b.s=true):∃ v,(D6 prog pFe 60).call 166 [.agg (Frm.av ⟨k,u,t,m,[a,b]⟩)] (Bg 8) G7=some v/\T9 (L6 ⟨k,u,t,m,[a,b]⟩) v:=by
 rw[F1c]
 by_cases c1:k<0
 rotate_left
 by_cases c2:k >= 9
 rotate_left
 by_cases c3:m<0
 rotate_left
 by_cases c4:m >= 3
 rotate_left
 by_cases c5:t<0
 rotate_left
 by_cases c6:t>100000
 rotate_left
 by_cases c7:H6 a.s≠0
 rotate_left
 by_cases c8:a.m<0
 rotate_left
 by_cases c9:a.m >= 3
 rotate_left
 by_cases c10:H6 b.s≠0
 rotate_left
 by_cases c11:a.s=b.s
 rotate_left
 by_cases c12:b.m<0
 rotate_left
 by_cases c13:b.m >= 3
 rotate_left
 all_goals
  apply exV
  focus
   repeat first
    | exact rfl
    | refine A8 rfl ?_
    | refine C8 rfl ?_
    | refine A8 (by simp only[SBs]; omega) ?_
    | refine C8 (by simp only[SBs]; omega) ?_
    | refine A8 hza ?_
    | refine A8 hzb ?_
    | refine A8 (beq_iff_eq.2 c11) ?_
    | refine C8 (beq_eq_false_iff_ne.2 c11) ?_
  focus
   first
    | apply viI
    | apply viS
   dsimp only [L6,A2y,B5r]
   repeat first
    | exact rfl
    | refine J3 (by omega) ?_
    | refine H5 (by omega) ?_
    | refine H5 (fun h=>h) ?_
    | refine J3 c11 ?_
    | refine H5 c11 ?_
theorem F1d(k:Int)(u:Bool)(t m:Int)(a b c:Dat):(D6 prog pFe 60).call 166 [.agg (Frm.av ⟨k,u,t,m,[a,b,c]⟩)] (Bg 8) G7 =
  brK (decide (k<0)) (some (.int .i64 1)) (brK (decide (k >= 9)) (some (.int .i64 1)) (brK (decide (m<0)) (some (.int .i64 1)) (brK (decide (m >= 3)) (some (.int .i64 1)) (brK (decide (t<0)) (some (.int .i64 2)) (brK (decide (t>100000)) (some (.int .i64 2)) (brK (I8 a.s) (brK (H6 a.s != 0) (some (.sint IntKind.i64 (H6 a.s))) (brK (decide (a.m<0)) (some (.int .i64 1)) (brK (decide (a.m >= 3)) (some (.int .i64 1)) (brK (I8 b.s) (brK (H6 b.s != 0) (some (.sint IntKind.i64 (H6 b.s))) (brK (a.s==b.s) (some (.int .i64 7)) (brK (decide (b.m<0)) (some (.int .i64 1)) (brK (decide (b.m >= 3)) (some (.int .i64 1)) (brK (I8 c.s) (brK (H6 c.s != 0) (some (.sint IntKind.i64 (H6 c.s))) (brK (a.s==c.s) (some (.int .i64 7)) (brK (b.s==c.s) (some (.int .i64 7)) (brK (decide (c.m<0)) (some (.int .i64 1)) (brK (decide (c.m >= 3)) (some (.int .i64 1)) (some (.int .i64 0))))))) none))))) none)))) none)))))):=by kernel_rfl
theorem F5v(k:Int)(u:Bool)(t m:Int)(a b c:Dat)(hza:I8 a.s=true)(hzb:I8 b.s=true)(hzc:I8 c.s=true):∃ v,(D6 prog pFe 60).call 166 [.agg (Frm.av ⟨k,u,t,m,[a,b,c]⟩)] (Bg 8) G7=some v/\T9 (L6 ⟨k,u,t,m,[a,b,c]⟩) v:=by
 rw[F1d]
 by_cases c1:k<0
 rotate_left
 by_cases c2:k >= 9
 rotate_left
 by_cases c3:m<0
 rotate_left
 by_cases c4:m >= 3
 rotate_left
 by_cases c5:t<0
 rotate_left
 by_cases c6:t>100000
 rotate_left
 by_cases c7:H6 a.s≠0
 rotate_left
 by_cases c8:a.m<0
 rotate_left
 by_cases c9:a.m >= 3
 rotate_left
 by_cases c10:H6 b.s≠0
 rotate_left
 by_cases c11:a.s=b.s
 rotate_left
 by_cases c12:b.m<0
 rotate_left
 by_cases c13:b.m >= 3
 rotate_left
 by_cases c14:H6 c.s≠0
 rotate_left
 by_cases c15:a.s=c.s
 rotate_left
 by_cases c16:b.s=c.s
 rotate_left
 by_cases c17:c.m<0
 rotate_left
 by_cases c18:c.m >= 3
 rotate_left
 all_goals
  apply exV
  focus
   repeat first
    | exact rfl
    | refine A8 rfl ?_
    | refine C8 rfl ?_
    | refine A8 (by simp only[SBs]; omega) ?_
    | refine C8 (by simp only[SBs]; omega) ?_
    | refine A8 hza ?_
    | refine A8 hzb ?_
    | refine A8 hzc ?_
    | refine A8 (beq_iff_eq.2 c11) ?_
    | refine C8 (beq_eq_false_iff_ne.2 c11) ?_
    | refine A8 (beq_iff_eq.2 c15) ?_
    | refine C8 (beq_eq_false_iff_ne.2 c15) ?_
    | refine A8 (beq_iff_eq.2 c16) ?_
    | refine C8 (beq_eq_false_iff_ne.2 c16) ?_
  focus
   first
    | apply viI
    | apply viS
   dsimp only [L6,A2y,B5r]
   repeat first
    | exact rfl
    | refine J3 (by omega) ?_
    | refine H5 (by omega) ?_
    | refine H5 (fun h=>h) ?_
    | refine J3 c11 ?_
    | refine H5 c11 ?_
    | refine J3 c15 ?_
    | refine H5 c15 ?_
    | refine J3 (.inl c15) ?_
    | refine J3 c16 ?_
    | refine H5 c16 ?_
    | refine J3 (.inr c16) ?_
    | refine H5 (fun h=>h.elim c15 c16) ?_
theorem F1e(x:Frm):(D6 prog D7k 60).call 166 [.agg x.av] (Bg 8) G7 =
  brK (decide (x.k<0)) (some (.int .i64 1)) (brK (decide (x.k >= 9)) (some (.int .i64 1)) (brK (decide (x.m<0)) (some (.int .i64 1)) (brK (decide (x.m >= 3)) (some (.int .i64 1)) (brK (decide (x.t<0)) (some (.int .i64 2)) (brK (decide (x.t>100000)) (some (.int .i64 2)) (brK (decide ((x.l.length:Int)>3)) (some (.int .i64 5)) none)))))):=by kernel_rfl
theorem F5w(x:Frm)(hl:x.l.length>3)(h5:A2y x.l=5):∃ v,(D6 prog D7k 60).call 166 [.agg x.av] (Bg 8) G7=some v/\T9 (L6 x) v:=by
 rw[F1e]
 by_cases c1:x.k<0
 rotate_left
 by_cases c2:x.k >= 9
 rotate_left
 by_cases c3:x.m<0
 rotate_left
 by_cases c4:x.m >= 3
 rotate_left
 by_cases c5:x.t<0
 rotate_left
 by_cases c6:x.t>100000
 rotate_left
 all_goals
  apply exV
  focus
   repeat first
    | exact rfl
    | refine A8 rfl ?_
    | refine C8 rfl ?_
    | refine A8 (by simp only[SBs]; omega) ?_
    | refine C8 (by simp only[SBs]; omega) ?_
  focus
   first
    | apply viI
    | apply viS
   dsimp only [L6]
   repeat first
    | exact rfl
    | refine J3 (by omega) ?_
    | refine H5 (by omega) ?_
    | exact h5
theorem F1f(k:Int)(u:Bool)(t m:Int):(D6 prog pFe 60).call 201 [.agg (Frm.av ⟨k,u,t,m,[]⟩)] (Bg 8) G7 =
  brK (decide (k<0)) (some (.int .i64 1)) (brK (decide (k >= 9)) (some (.int .i64 1)) (brK (decide (m<0)) (some (.int .i64 1)) (brK (decide (m >= 3)) (some (.int .i64 1)) (brK (decide (t<0)) (some (.int .i64 2)) (brK (decide (t>100000)) (some (.int .i64 2)) (some (.int .i64 0))))))):=by kernel_rfl
theorem F5x(k:Int)(u:Bool)(t m:Int):∃ v,(D6 prog pFe 60).call 201 [.agg (Frm.av ⟨k,u,t,m,[]⟩)] (Bg 8) G7=some v/\T9 (L6 ⟨k,u,t,m,[]⟩) v:=by
 rw[F1f]
 by_cases c1:k<0
 rotate_left
 by_cases c2:k >= 9
 rotate_left
 by_cases c3:m<0
 rotate_left
 by_cases c4:m >= 3
 rotate_left
 by_cases c5:t<0
 rotate_left
 by_cases c6:t>100000
 rotate_left
 all_goals
  apply exV
  focus
   repeat first
    | exact rfl
    | refine A8 rfl ?_
    | refine C8 rfl ?_
    | refine A8 (by simp only[SBs]; omega) ?_
    | refine C8 (by simp only[SBs]; omega) ?_
  focus
   first
    | apply viI
    | apply viS
   dsimp only [L6,A2y]
   repeat first
    | exact rfl
    | refine J3 (by omega) ?_
    | refine H5 (by omega) ?_
theorem F1g(k:Int)(u:Bool)(t m:Int)(a:Dat):(D6 prog pFe 60).call 201 [.agg (Frm.av ⟨k,u,t,m,[a]⟩)] (Bg 8) G7 =
  brK (decide (k<0)) (some (.int .i64 1)) (brK (decide (k >= 9)) (some (.int .i64 1)) (brK (decide (m<0)) (some (.int .i64 1)) (brK (decide (m >= 3)) (some (.int .i64 1)) (brK (decide (t<0)) (some (.int .i64 2)) (brK (decide (t>100000)) (some (.int .i64 2)) (brK (I8 a.s) (brK (H6 a.s != 0) (some (.sint IntKind.i64 (H6 a.s))) (brK (decide (a.m<0)) (some (.int .i64 1)) (brK (decide (a.m >= 3)) (some (.int .i64 1)) (some (.int .i64 0))))) none)))))):=by kernel_rfl
theorem F5y(k:Int)(u:Bool)(t m:Int)(a:Dat)(hza:I8 a.s=true):∃ v,(D6 prog pFe 60).call 201 [.agg (Frm.av ⟨k,u,t,m,[a]⟩)] (Bg 8) G7=some v/\T9 (L6 ⟨k,u,t,m,[a]⟩) v:=by
 rw[F1g]
 by_cases c1:k<0
 rotate_left
 by_cases c2:k >= 9
 rotate_left
 by_cases c3:m<0
 rotate_left
 by_cases c4:m >= 3
 rotate_left
 by_cases c5:t<0
 rotate_left
 by_cases c6:t>100000
 rotate_left
 by_cases c7:H6 a.s≠0
 rotate_left
 by_cases c8:a.m<0
 rotate_left
 by_cases c9:a.m >= 3
 rotate_left
 all_goals
  apply exV
  focus
   repeat first
    | exact rfl
    | refine A8 rfl ?_
    | refine C8 rfl ?_
    | refine A8 (by simp only[SBs]; omega) ?_
    | refine C8 (by simp only[SBs]; omega) ?_
    | refine A8 hza ?_
  focus
   first
    | apply viI
    | apply viS
   dsimp only [L6,A2y,B5r]
   repeat first
    | exact rfl
    | refine J3 (by omega) ?_
    | refine H5 (by omega) ?_
    | refine H5 (fun h=>h) ?_
theorem F1h(k:Int)(u:Bool)(t m:Int)(a b:Dat):(D6 prog pFe 60).call 201 [.agg (Frm.av ⟨k,u,t,m,[a,b]⟩)] (Bg 8) G7 =
  brK (decide (k<0)) (some (.int .i64 1)) (brK (decide (k >= 9)) (some (.int .i64 1)) (brK (decide (m<0)) (some (.int .i64 1)) (brK (decide (m >= 3)) (some (.int .i64 1)) (brK (decide (t<0)) (some (.int .i64 2)) (brK (decide (t>100000)) (some (.int .i64 2)) (brK (I8 a.s) (brK (H6 a.s != 0) (some (.sint IntKind.i64 (H6 a.s))) (brK (decide (a.m<0)) (some (.int .i64 1)) (brK (decide (a.m >= 3)) (some (.int .i64 1)) (brK (I8 b.s) (brK (H6 b.s != 0) (some (.sint IntKind.i64 (H6 b.s))) (brK (a.s==b.s) (some (.int .i64 7)) (brK (decide (b.m<0)) (some (.int .i64 1)) (brK (decide (b.m >= 3)) (some (.int .i64 1)) (some (.int .i64 0)))))) none)))) none)))))):=by kernel_rfl
theorem F5z(k:Int)(u:Bool)(t m:Int)(a b:Dat)(hza:I8 a.s=true)(hzb:I8 b.s=true):∃ v,(D6 prog pFe 60).call 201 [.agg (Frm.av ⟨k,u,t,m,[a,b]⟩)] (Bg 8) G7=some v/\T9 (L6 ⟨k,u,t,m,[a,b]⟩) v:=by
 rw[F1h]
 by_cases c1:k<0
 rotate_left
 by_cases c2:k >= 9
 rotate_left
 by_cases c3:m<0
 rotate_left
 by_cases c4:m >= 3
 rotate_left
 by_cases c5:t<0
 rotate_left
 by_cases c6:t>100000
 rotate_left
 by_cases c7:H6 a.s≠0
 rotate_left
 by_cases c8:a.m<0
 rotate_left
 by_cases c9:a.m >= 3
 rotate_left
 by_cases c10:H6 b.s≠0
 rotate_left
 by_cases c11:a.s=b.s
 rotate_left
 by_cases c12:b.m<0
 rotate_left
 by_cases c13:b.m >= 3
 rotate_left
 all_goals
  apply exV
  focus
   repeat first
    | exact rfl
    | refine A8 rfl ?_
    | refine C8 rfl ?_
    | refine A8 (by simp only[SBs]; omega) ?_
    | refine C8 (by simp only[SBs]; omega) ?_
    | refine A8 hza ?_
    | refine A8 hzb ?_
    | refine A8 (beq_iff_eq.2 c11) ?_
    | refine C8 (beq_eq_false_iff_ne.2 c11) ?_
  focus
   first
    | apply viI
    | apply viS
   dsimp only [L6,A2y,B5r]
   repeat first
    | exact rfl
    | refine J3 (by omega) ?_
    | refine H5 (by omega) ?_
    | refine H5 (fun h=>h) ?_
    | refine J3 c11 ?_
    | refine H5 c11 ?_
theorem F1i(k:Int)(u:Bool)(t m:Int)(a b c:Dat):(D6 prog pFe 60).call 201 [.agg (Frm.av ⟨k,u,t,m,[a,b,c]⟩)] (Bg 8) G7 =
  brK (decide (k<0)) (some (.int .i64 1)) (brK (decide (k >= 9)) (some (.int .i64 1)) (brK (decide (m<0)) (some (.int .i64 1)) (brK (decide (m >= 3)) (some (.int .i64 1)) (brK (decide (t<0)) (some (.int .i64 2)) (brK (decide (t>100000)) (some (.int .i64 2)) (brK (I8 a.s) (brK (H6 a.s != 0) (some (.sint IntKind.i64 (H6 a.s))) (brK (decide (a.m<0)) (some (.int .i64 1)) (brK (decide (a.m >= 3)) (some (.int .i64 1)) (brK (I8 b.s) (brK (H6 b.s != 0) (some (.sint IntKind.i64 (H6 b.s))) (brK (a.s==b.s) (some (.int .i64 7)) (brK (decide (b.m<0)) (some (.int .i64 1)) (brK (decide (b.m >= 3)) (some (.int .i64 1)) (brK (I8 c.s) (brK (H6 c.s != 0) (some (.sint IntKind.i64 (H6 c.s))) (brK (a.s==c.s) (some (.int .i64 7)) (brK (b.s==c.s) (some (.int .i64 7)) (brK (decide (c.m<0)) (some (.int .i64 1)) (brK (decide (c.m >= 3)) (some (.int .i64 1)) (some (.int .i64 0))))))) none))))) none)))) none)))))):=by kernel_rfl
theorem F6a(k:Int)(u:Bool)(t m:Int)(a b c:Dat)(hza:I8 a.s=true)(hzb:I8 b.s=true)(hzc:I8 c.s=true):∃ v,(D6 prog pFe 60).call 201 [.agg (Frm.av ⟨k,u,t,m,[a,b,c]⟩)] (Bg 8) G7=some v/\T9 (L6 ⟨k,u,t,m,[a,b,c]⟩) v:=by
 rw[F1i]
 by_cases c1:k<0
 rotate_left
 by_cases c2:k >= 9
 rotate_left
 by_cases c3:m<0
 rotate_left
 by_cases c4:m >= 3
 rotate_left
 by_cases c5:t<0
 rotate_left
 by_cases c6:t>100000
 rotate_left
 by_cases c7:H6 a.s≠0
 rotate_left
 by_cases c8:a.m<0
 rotate_left
 by_cases c9:a.m >= 3
 rotate_left
 by_cases c10:H6 b.s≠0
 rotate_left
 by_cases c11:a.s=b.s
 rotate_left
 by_cases c12:b.m<0
 rotate_left
 by_cases c13:b.m >= 3
 rotate_left
 by_cases c14:H6 c.s≠0
 rotate_left
 by_cases c15:a.s=c.s
 rotate_left
 by_cases c16:b.s=c.s
 rotate_left
 by_cases c17:c.m<0
 rotate_left
 by_cases c18:c.m >= 3
 rotate_left
 all_goals
  apply exV
  focus
   repeat first
    | exact rfl
    | refine A8 rfl ?_
    | refine C8 rfl ?_
    | refine A8 (by simp only[SBs]; omega) ?_
    | refine C8 (by simp only[SBs]; omega) ?_
    | refine A8 hza ?_
    | refine A8 hzb ?_
    | refine A8 hzc ?_
    | refine A8 (beq_iff_eq.2 c11) ?_
    | refine C8 (beq_eq_false_iff_ne.2 c11) ?_
    | refine A8 (beq_iff_eq.2 c15) ?_
    | refine C8 (beq_eq_false_iff_ne.2 c15) ?_
    | refine A8 (beq_iff_eq.2 c16) ?_
    | refine C8 (beq_eq_false_iff_ne.2 c16) ?_
  focus
   first
    | apply viI
    | apply viS
   dsimp only [L6,A2y,B5r]
   repeat first
    | exact rfl
    | refine J3 (by omega) ?_
    | refine H5 (by omega) ?_
    | refine H5 (fun h=>h) ?_
    | refine J3 c11 ?_
    | refine H5 c11 ?_
    | refine J3 c15 ?_
    | refine H5 c15 ?_
    | refine J3 (.inl c15) ?_
    | refine J3 c16 ?_
    | refine H5 c16 ?_
    | refine J3 (.inr c16) ?_
    | refine H5 (fun h=>h.elim c15 c16) ?_
theorem F1j(x:Frm):(D6 prog D7k 60).call 201 [.agg x.av] (Bg 8) G7 =
  brK (decide (x.k<0)) (some (.int .i64 1)) (brK (decide (x.k >= 9)) (some (.int .i64 1)) (brK (decide (x.m<0)) (some (.int .i64 1)) (brK (decide (x.m >= 3)) (some (.int .i64 1)) (brK (decide (x.t<0)) (some (.int .i64 2)) (brK (decide (x.t>100000)) (some (.int .i64 2)) (brK (decide ((x.l.length:Int)>3)) (some (.int .i64 5)) none)))))):=by kernel_rfl
theorem F6b(x:Frm)(hl:x.l.length>3)(h5:A2y x.l=5):∃ v,(D6 prog D7k 60).call 201 [.agg x.av] (Bg 8) G7=some v/\T9 (L6 x) v:=by
 rw[F1j]
 by_cases c1:x.k<0
 rotate_left
 by_cases c2:x.k >= 9
 rotate_left
 by_cases c3:x.m<0
 rotate_left
 by_cases c4:x.m >= 3
 rotate_left
 by_cases c5:x.t<0
 rotate_left
 by_cases c6:x.t>100000
 rotate_left
 all_goals
  apply exV
  focus
   repeat first
    | exact rfl
    | refine A8 rfl ?_
    | refine C8 rfl ?_
    | refine A8 (by simp only[SBs]; omega) ?_
    | refine C8 (by simp only[SBs]; omega) ?_
  focus
   first
    | apply viI
    | apply viS
   dsimp only [L6]
   repeat first
    | exact rfl
    | refine J3 (by omega) ?_
    | refine H5 (by omega) ?_
    | exact h5
theorem G7v(x:Frm)(hz:szD x.l=true):∃ v,((D6 prog pFe 60).call 166 [.agg x.av] (Bg 8) G7=some v \/ (D6 prog D7k 60).call 166 [.agg x.av] (Bg 8) G7=some v)/\T9 (L6 x) v:=by
 obtain⟨k,u,t,m,l⟩:=x
 match l with
 | [] =>
  obtain⟨v,h1,h2⟩:=F5s k u t m
  exact⟨v,.inl h1,h2⟩
 | [a] =>
  simp only[szD,List.all_cons,List.all_nil,bA] at hz
  obtain⟨v,h1,h2⟩:=F5t k u t m a hz.1
  exact⟨v,.inl h1,h2⟩
 | [a,b] =>
  simp only[szD,List.all_cons,List.all_nil,bA] at hz
  obtain⟨v,h1,h2⟩:=F5u k u t m a b hz.1 hz.2.1
  exact⟨v,.inl h1,h2⟩
 | [a,b,c] =>
  simp only[szD,List.all_cons,List.all_nil,bA] at hz
  obtain⟨v,h1,h2⟩:=F5v k u t m a b c hz.1 hz.2.1 hz.2.2.1
  exact⟨v,.inl h1,h2⟩
 | a::b::c::d::r =>
  obtain⟨v,h1,h2⟩:=F5w ⟨k,u,t,m,a::b::c::d::r⟩ (by simp) rfl
  exact⟨v,.inr h1,h2⟩
theorem G7w(x:Frm)(hz:szD x.l=true):∃ v,((D6 prog pFe 60).call 201 [.agg x.av] (Bg 8) G7=some v \/ (D6 prog D7k 60).call 201 [.agg x.av] (Bg 8) G7=some v)/\T9 (L6 x) v:=by
 obtain⟨k,u,t,m,l⟩:=x
 match l with
 | [] =>
  obtain⟨v,h1,h2⟩:=F5x k u t m
  exact⟨v,.inl h1,h2⟩
 | [a] =>
  simp only[szD,List.all_cons,List.all_nil,bA] at hz
  obtain⟨v,h1,h2⟩:=F5y k u t m a hz.1
  exact⟨v,.inl h1,h2⟩
 | [a,b] =>
  simp only[szD,List.all_cons,List.all_nil,bA] at hz
  obtain⟨v,h1,h2⟩:=F5z k u t m a b hz.1 hz.2.1
  exact⟨v,.inl h1,h2⟩
 | [a,b,c] =>
  simp only[szD,List.all_cons,List.all_nil,bA] at hz
  obtain⟨v,h1,h2⟩:=F6a k u t m a b c hz.1 hz.2.1 hz.2.2.1
  exact⟨v,.inl h1,h2⟩
 | a::b::c::d::r =>
  obtain⟨v,h1,h2⟩:=F6b ⟨k,u,t,m,a::b::c::d::r⟩ (by simp) rfl
  exact⟨v,.inr h1,h2⟩
theorem B1r{A:Amb}(hG:gN prog<=A.G){prims p1 p2:Prims}(h1:PrimOK prog A p1)(h2:PrimOK prog A p2)(hp:PrimOK prog A prims){f:FuncId}{fn:Func}{β:Type}(p:Par β)(V:β->Tr AV)(hf:prog.funcs[f]?=some fn)(hc:fn.body.isSome=true)(h:∀ x v,(V x).get=some v->∃ v',((D6 prog p1 60).call f (p.av x) (Bg 8) G7=some v' \/ (D6 prog p2 60).call f (p.av x) (Bg 8) G7=some v')/\F5 0 v'=true/\∀ Z y,VR Z v' y->VR Z v y):PrimOK prog A (prims.addt f (Q8 p V)):=by
 refine PrimOK.addD F8 G5 hp hG hf hc fun args v hv=>?_
 unfold Q8 at hv
 split at hv
 ·rename_i c x hx
  obtain⟨rfl,hv⟩:=Tr.br1 hv
  obtain⟨v',h3,h4,h5⟩:=h x v hv
  rcases h3 with h3 | h3
  ·obtain⟨B',hca⟩:=Ca.of_finV h3
   exact⟨p1,p.av x,v',B',h1,fun Z xs hx2=>p.ok hx hx2,h5,p.free x,h4,by rw[gsz]; exact hca⟩
  ·obtain⟨B',hca⟩:=Ca.of_finV h3
   exact⟨p2,p.av x,v',B',h2,fun Z xs hx2=>p.ok hx hx2,h5,p.free x,h4,by rw[gsz]; exact hca⟩
 ·cases hv
def VPl(x:Frm):Tr AV:=.br (szD x.l) (.leaf (.sint .i64 (L6 x))) .fail
def pPl:Prims:=(pFe.addt 166 (Q8 C7k VPl)).addt 201 (Q8 C7k VPl)
theorem E9p{A:Amb}(hT:Tab A)(hG:gN prog<=A.G):PrimOK prog A pPl:=by
 have h0:=D7l hT hG
 have hS:PrimOK prog A D7k:=D0w (D0w h0 func166 (show f166.body=some (f166.body.getD .skip) by kernel_rfl) (body:=.loop (I7 (J8 1 (f166.body.getD .skip)))) (by kernel_rfl)) func237 (show f237.body=some (f237.body.getD .skip) by kernel_rfl) (body:=.loop (I7 (J8 0 (f237.body.getD .skip)))) (by kernel_rfl)
 refine B1r hG h0 hS (B1r hG h0 hS h0 C7k VPl func166 (by kernel_rfl) fun x v hv=>?_) C7k VPl func201 (by kernel_rfl) fun x v hv=>?_
 ·obtain⟨hz,hv⟩:=Tr.br1 hv
  cases hv
  obtain⟨v',h1,h2⟩:=G7v x hz
  exact⟨v',h1,H8 h2,K7 h2⟩
 ·obtain⟨hz,hv⟩:=Tr.br1 hv
  cases hv
  obtain⟨v',h1,h2⟩:=G7w x hz
  exact⟨v',h1,H8 h2,K7 h2⟩
end Go.Proofs.Tryz
