/- Drawings: frames of features. -/
import Derived.Test.YtoboneiigikidaaGreatDoorPl
noncomputable section
namespace Go.Proofs.Tryz
open Go.Ad
def C4e:Code:=I9 (J7 0 (f214.body.getD .skip))
def sp214:SP:=⟨[.flist 2]++[.is (.func (.func 170) [] [.ptr (some (8,0))])]++dr 5++[.int .i64]++[.int .i64]++dr 10,dd8++[.any,.any,.cells [.drop,.drop,.drop,.drop,.drop,.drop] 0 true 187]⟩
def C6x:AEx->SP
 | .ret=>⟨dr 4++[.int .i64]++dr 14,dd8++[.any,.any,.cells [.drop,.drop,.drop,.drop,.drop,.drop] 0 true 187]⟩
 | .exit 0=>⟨dr 19,dd8++[.any,.any,.cells [.drop,.drop,.drop,.drop,.drop,.drop] 0 true 187]⟩
 | _=>sp214
theorem E8i (f:Fea) (y:Frm) (l:List Dat) (n:Int):F3 prog (D5 prog pPl 60) (pPl.blk 214) C4e (sp214.rho [.n l.length,.fr (A7 Dat.fv l),.i l.length,.i n,.o (D7 f),.o (R5 y)]) (sp214.heap [.n l.length,.fr (A7 Dat.fv l),.i l.length,.i n,.o (D7 f),.o (R5 y)]) (H9 C6x 11 [10]) =
  brK (decide (n < (l.length:Int))) (brK (decide (0<=n/\n < (l.length:Int))) (brK ((l.getD n.toNat default).s == f.s) (some (.ret,[.i n,.o (D7 f),.o (R5 y)])) (some (.normal,[.n (l.length),.fr (fun i=>(l.getD i default).fv),.i (l.length),.i (W (n+1)),.o (D7 f),.o (R5 y)]))) none) (some (.exit 0,[.o (D7 f),.o (R5 y)])):=by kernel_rfl
def B5p (x:Fea × Frm × List Dat) (n:Nat):List Lf:=[.n x.2.2.length,.fr (A7 Dat.fv x.2.2),.i x.2.2.length,.i n,.o (D7 x.1),.o (R5 x.2.1)]
def D6z:List Lf->Nat->List Lf
 | [_,_,_,_,o,q],n=>[.i n,o,q]
 | _,_=>[]
def D7l:List Lf->List Lf
 | [_,_,_,_,o,q]=>[o,q]
 | _=>[]
def C3f (x:Fea × Frm × List Dat):Nat:=x.2.2.length
def E1z (x:Fea × Frm × List Dat) (n:Nat):Bool:=!((x.2.2.getD n default).s == x.1.s)
def B8h (x:Fea × Frm × List Dat):Prop:=x.2.2.length < 2 ^ 62
def A5w:List Lf->Fea × Frm × List Dat
 | [.n m,.fr g,_,_,.o f,.o y]=>(A2g f,D1j y,ofR Dat.fv m g)
 | _=>default
theorem F5t (x:Fea × Frm × List Dat) (hx:B8h x) (n:Nat) (hn:n<=C3f x):F3 prog (D5 prog pPl 60) (pPl.blk 214) C4e (sp214.rho (B5p x n)) (sp214.heap (B5p x n)) (H9 C6x 11 [10])=some (if n < C3f x then (bif E1z x n then (.normal,B5p x (n+1)) else (.ret,D6z (B5p x 0) n)) else (.exit 0,D7l (B5p x 0))):=by
 have h1:=hx
 simp only [B8h] at h1
 simp only [B5p,D6z,D7l]
 rw [E8i,I4 hn h1]
 simp only [Int.toNat_natCast,Nat.zero_add]
 by_cases h:n < C3f x
 ·rw [if_pos h]
  simp only [C3f] at h
  simp only [E1z]
  cases hE:(x.2.2.getD n default).s == x.1.s
  all_goals
   repeat first
    | exact rfl
    | refine A8 rfl ?_
    | refine C8 rfl ?_
    | refine A8 (by simp only [SBs]; omega) ?_
    | refine C8 (by simp only [SBs]; omega) ?_
    | exact congrArg some (Y5 (by first | (simp only [SBs]; omega) | simp)).symm
    | exact congrArg some (Y4 (by first | (simp only [SBs]; omega) | simp)).symm
 ·rw [if_neg h]
  simp only [C3f] at h
  repeat first
   | exact rfl
   | refine A8 rfl ?_
   | refine C8 rfl ?_
   | refine A8 (by simp only [SBs]; omega) ?_
   | refine C8 (by simp only [SBs]; omega) ?_
   | exact congrArg some (Y5 (by first | (simp only [SBs]; omega) | simp)).symm
   | exact congrArg some (Y4 (by first | (simp only [SBs]; omega) | simp)).symm
def F7h:Blk:=hookP sp214 11 [10] (fdT C6x 0 .ret (.exit 0) A5w B5p D6z D7l C3f E1z B8h)
theorem E4y {A:Amb} {q:Prims} (h0:PrimOK prog A pPl) (hq:PrimOK prog A q):PrimOK prog A (q.addb 214 0 F7h) :=
 SEB.findR (id:=0) (ds:=[10]) (dec:=A5w) (sp:=sp214) (sq:=C6x) (m:=11) (eb:=.ret) (ee:=.exit 0) (L:=B5p) (Lb:=D6z) (Le:=D7l) (N:=C3f) (p:=E1z) (Inv:=B8h) (k:=60) F7 F8 h0 hq func214 (show f214.body=some (f214.body.getD .skip) by kernel_rfl) (body:=C4e) (by kernel_rfl)
  rfl rfl rfl rfl (by simp) (by simp) (fun _ _=>⟨⟨.inr rfl,.inr rfl,.inr rfl,.inr rfl,.inr rfl,.inr rfl,.inr rfl,.inr rfl,.inr rfl,.inr rfl,.inr rfl,trivial⟩,⟨.inr rfl,.inr rfl,.inr rfl,.inr rfl,.inr rfl,.inr rfl,.inr rfl,.inr rfl,.inr rfl,.inr rfl,.inr rfl,trivial⟩⟩) F5t
def C4d:Code:=I9 (J7 0 (f151.body.getD .skip))
def sp151:SP:=⟨dr 2++[.is (.ptr (some (8,0)))]++[.is (.ptr (some (9,0)))]++dr 4++[.int .i64]++dr 32,dd8++[.any,.any]⟩
def C6w:AEx->SP
 | .ret=>⟨dr 4++[.int .i64]++dr 36,dd8++[.any,.any]⟩
 | .exit 0=>⟨dr 41,dd8++[.any,.any]⟩
 | _=>sp151
theorem E8h (f:Fea) (y:Frm) (n:Int):F3 prog (D5 prog pPl 60) (pPl.blk 151) C4d (sp151.rho [.i n,.o (D7 f),.o (R5 y)]) (sp151.heap [.i n,.o (D7 f),.o (R5 y)]) (H9 C6w 10 []) =
  brK (decide (n < (y.l.length:Int))) (brK (decide (0<=n/\n < (y.l.length:Int))) (brK ((y.l.getD n.toNat default).s == f.s) (some (.ret,[.i 7,.o (D7 f),.o (R5 y)])) (some (.normal,[.i (W (n+1)),.o (D7 f),.o (R5 y)]))) none) (some (.exit 0,[.o (D7 f),.o (R5 y)])):=by kernel_rfl
def B5o (x:Fea × Frm) (n:Nat):List Lf:=[.i n,.o (D7 x.1),.o (R5 x.2)]
def D6y:List Lf->Nat->List Lf
 | [_,o,q],_=>[.i 7,o,q]
 | _,_=>[]
def D7k:List Lf->List Lf
 | [_,o,q]=>[o,q]
 | _=>[]
def C0g (x:Fea × Frm):Nat:=x.2.l.length
def D5y (x:Fea × Frm) (n:Nat):Bool:=!((U6 x.2 n).s == x.1.s)
def B8g (x:Fea × Frm):Prop:=x.2.l.length < 2 ^ 62
def A5v:List Lf->Fea × Frm
 | [_,.o f,.o y]=>(A2g f,D1j y)
 | _=>default
theorem F5s (x:Fea × Frm) (hx:B8g x) (n:Nat) (hn:n<=C0g x):F3 prog (D5 prog pPl 60) (pPl.blk 151) C4d (sp151.rho (B5o x n)) (sp151.heap (B5o x n)) (H9 C6w 10 [])=some (if n < C0g x then (bif D5y x n then (.normal,B5o x (n+1)) else (.ret,D6y (B5o x 0) n)) else (.exit 0,D7k (B5o x 0))):=by
 have h1:=hx
 simp only [B8g] at h1
 simp only [B5o,D6y,D7k]
 rw [E8h,I4 hn h1]
 simp only [Int.toNat_natCast,Nat.zero_add]
 by_cases h:n < C0g x
 ·rw [if_pos h]
  simp only [C0g,U6] at h
  simp only [D5y,U6]
  cases hE:(x.2.l.getD n default).s == x.1.s
  all_goals
   repeat first
    | exact rfl
    | refine A8 rfl ?_
    | refine C8 rfl ?_
    | refine A8 (by simp only [SBs]; omega) ?_
    | refine C8 (by simp only [SBs]; omega) ?_
    | exact congrArg some (Y5 (by first | (simp only [SBs]; omega) | simp)).symm
    | exact congrArg some (Y4 (by first | (simp only [SBs]; omega) | simp)).symm
 ·rw [if_neg h]
  simp only [C0g,U6] at h
  repeat first
   | exact rfl
   | refine A8 rfl ?_
   | refine C8 rfl ?_
   | refine A8 (by simp only [SBs]; omega) ?_
   | refine C8 (by simp only [SBs]; omega) ?_
   | exact congrArg some (Y5 (by first | (simp only [SBs]; omega) | simp)).symm
   | exact congrArg some (Y4 (by first | (simp only [SBs]; omega) | simp)).symm
def F7g:Blk:=hookP sp151 10 [] (fdT C6w 0 .ret (.exit 0) A5v B5o D6y D7k C0g D5y B8g)
theorem E4x {A:Amb} {q:Prims} (h0:PrimOK prog A pPl) (hq:PrimOK prog A q):PrimOK prog A (q.addb 151 0 F7g) :=
 SEB.findR (id:=0) (ds:=[]) (dec:=A5v) (sp:=sp151) (sq:=C6w) (m:=10) (eb:=.ret) (ee:=.exit 0) (L:=B5o) (Lb:=D6y) (Le:=D7k) (N:=C0g) (p:=D5y) (Inv:=B8g) (k:=60) F7 F8 h0 hq func151 (show f151.body=some (f151.body.getD .skip) by kernel_rfl) (body:=C4d) (by kernel_rfl)
  rfl rfl rfl rfl (by simp) (by simp) (fun _ _=>⟨⟨.inr rfl,.inr rfl,.inr rfl,.inr rfl,.inr rfl,.inr rfl,.inr rfl,.inr rfl,.inr rfl,.inr rfl,trivial⟩,⟨.inr rfl,.inr rfl,.inr rfl,.inr rfl,.inr rfl,.inr rfl,.inr rfl,.inr rfl,.inr rfl,.inr rfl,trivial⟩⟩) F5s
theorem C1i (f:Fea) (y:Frm) (l:List Dat):A5w [Lf.n l.length,Lf.fr (A7 Dat.fv l),Lf.i l.length,Lf.i 0,Lf.o (D7 f),Lf.o (R5 y)]=(f,y,l):=by simp [A5w,O3,B9a,J3 Dat.inj]
theorem F9v {f:Fea} {y:Frm} {l:List Dat} (h1:l.length < 2 ^ 62):fdC B5p A5w B8h [Lf.n l.length,Lf.fr (A7 Dat.fv l),Lf.i l.length,Lf.i 0,Lf.o (D7 f),Lf.o (R5 y)]=true:=I8 (x:=(f,y,l)) (C1i f y l) h1
theorem C1h (f:Fea) (y:Frm):A5v [Lf.i 0,Lf.o (D7 f),Lf.o (R5 y)]=(f,y):=by simp [A5v,O3,B9a]
theorem F9u {f:Fea} {y:Frm} (h1:y.l.length < 2 ^ 62):fdC B5o A5v B8g [Lf.i 0,Lf.o (D7 f),Lf.o (R5 y)]=true:=I8 (x:=(f,y)) (C1h f y) h1
def D6b:Prims:=(pPl.addb 214 0 F7h).addb 151 0 F7g
theorem F4d {A:Amb} (hT:Tab A) (hG:gN prog<=A.G):PrimOK prog A D6b:=by
 have h0:=E7r hT hG
 exact E4x h0 (E4y h0 h0)
end Go.Proofs.Tryz
namespace Go.Proofs.Tryz
open Go.Ad
def onL:List (List Bool):=[[false,true,true,false,false],[true,false,false,true,false],[true,true,true,true,false],[true,true,true,true,false],[false,true,true,false,true],[false,false,false,false,true],[true,false,false,false,false],[true,true,true,false,false],[true,true,true,true,true]]
def dcL:List (List Bool):=[[false,true,true,false,false],[],[false,true,true,false,false],[false,true,true,false,false],[],[],[],[],[false,true,true,false,true]]
def onT (k f:Int):Bool:=(onL.getD k.toNat []).getD f.toNat false
def dcT (k f:Int):Bool:=(dcL.getD k.toNat []).getD f.toNat false
def mtT (k f:Int):Bool:=([true,false,true,true,false,false,false,false,true]:List Bool).getD k.toNat false && (f != 0)
def lsT (k:Int):Int:=([0,0,1,1,0,0,0,1,0]:List Int).getD k.toNat 0
def msT (k:Int):Int:=([0,0,2,2,0,0,3,1,3]:List Int).getD k.toNat 0
abbrev nT (ls ms:Int) (n:Nat) (c e:Bool) (v:AV):Option AV:=brK (decide ((n:Int) < ls)) (some (.int .i64 13)) (brK (decide ((n:Int) > ms)) (some (.int .i64 5)) (brK c (brK e (some (.int .i64 0)) (some v)) none))
abbrev mT (mt:Bool) (m:Int) (r:Option AV):Option AV:=brK (m != 0) (bif mt then r else some (.int .i64 3)) r
abbrev tT (t m:Int) (r:Option AV):Option AV:=brK (t == 0) (brK (m != 1) (some (.int .i64 10)) r) r
abbrev uT (dc u:Bool) (r:Option AV):Option AV:=brK u (bif dc then r else some (.int .i64 3)) r
def frT (f:Fea) (x:Frm) (c e:Bool) (v:AV):Option AV:=bif onT x.k f.k then uT (dcT x.k f.k) x.d (tT x.t x.m (mT (mtT x.k f.k) x.m (nT (lsT x.k) (msT x.k) x.l.length c e v))) else some (.int .i64 14)
abbrev E2b (f:Fea) (x:Frm) (r:Option AV):Option AV:=brK (D8 (okR Frm.fv f.l.length (A7 Frm.fv f.l))) (brK (I5 f.s) (brK (J9 { f with l:=ofR Frm.fv f.l.length (A7 Frm.fv f.l) } != 0) (some (.sint .i64 (J9 { f with l:=ofR Frm.fv f.l.length (A7 Frm.fv f.l) })))
 (brK (D8 (okR Dat.fv x.l.length (A7 Dat.fv x.l))) (brK (szD (ofR Dat.fv x.l.length (A7 Dat.fv x.l))) (brK (K7 { x with l:=ofR Dat.fv x.l.length (A7 Dat.fv x.l) } != 0) (some (.sint .i64 (K7 { x with l:=ofR Dat.fv x.l.length (A7 Dat.fv x.l) }))) r) none) none)) none) none
abbrev F3f (f:Fea) (x:Frm):List Lf:=[Lf.n x.l.length,Lf.fr (A7 Dat.fv x.l),Lf.i x.l.length,Lf.i 0,Lf.o (D7 f),Lf.o (R5 x)]
abbrev F3e (f:Fea) (x:Frm):List Lf:=[Lf.i 0,Lf.o (D7 f),Lf.o (R5 x)]
abbrev A0x (f:Fea) (x:Frm):Prop:=(D5 prog D6b 60).call 107 [.agg f.av,.agg x.av] (Bg 8) F9=E2b f x (frT f x (fdC B5p A5w B8h (F3f f x)) (fdE E1z C3f (A5w (F3f f x))) (.int .i64 7))
abbrev A0y (f:Fea) (x:Frm):Prop:=(D5 prog D6b 60).call 151 [.agg f.av,.agg x.av] (Bg 8) F9=E2b f x (frT f x (fdC B5o A5v B8g (F3e f x)) (fdE D5y C0g (A5v (F3e f x))) (.sint .i64 7))
abbrev setF (f:Fea) (k:Int):Fea:={ f with k:=k }
abbrev A6y (x:Frm) (k:Int):Frm:={ x with k:=k }
theorem C5r {k:Int} (h:0<=k/\k < 9):k=0 \/ k=1 \/ k=2 \/ k=3 \/ k=4 \/ k=5 \/ k=6 \/ k=7 \/ k=8:=by omega
theorem X3 {k:Int} (h:0<=k/\k < 5):k=0 \/ k=1 \/ k=2 \/ k=3 \/ k=4:=by omega
end Go.Proofs.Tryz
namespace Go.Proofs.Tryz
open Go.Ad
theorem F1v (f:Fea) (x:Frm) {q:Int} (h:0<=q/\q < 5):A0x (setF f q) (A6y x 0):=by
 rcases X3 h with rfl | rfl | rfl | rfl | rfl <;> (delta A0x; kernel_rfl)
theorem F1w (f:Fea) (x:Frm) {q:Int} (h:0<=q/\q < 5):A0x (setF f q) (A6y x 1):=by
 rcases X3 h with rfl | rfl | rfl | rfl | rfl <;> (delta A0x; kernel_rfl)
theorem F1x (f:Fea) (x:Frm) {q:Int} (h:0<=q/\q < 5):A0x (setF f q) (A6y x 2):=by
 rcases X3 h with rfl | rfl | rfl | rfl | rfl <;> (delta A0x; kernel_rfl)
theorem F1y (f:Fea) (x:Frm) {q:Int} (h:0<=q/\q < 5):A0x (setF f q) (A6y x 3):=by
 rcases X3 h with rfl | rfl | rfl | rfl | rfl <;> (delta A0x; kernel_rfl)
theorem F1z (f:Fea) (x:Frm) {q:Int} (h:0<=q/\q < 5):A0x (setF f q) (A6y x 4):=by
 rcases X3 h with rfl | rfl | rfl | rfl | rfl <;> (delta A0x; kernel_rfl)
theorem F2a (f:Fea) (x:Frm) {q:Int} (h:0<=q/\q < 5):A0x (setF f q) (A6y x 5):=by
 rcases X3 h with rfl | rfl | rfl | rfl | rfl <;> (delta A0x; kernel_rfl)
theorem F2b (f:Fea) (x:Frm) {q:Int} (h:0<=q/\q < 5):A0x (setF f q) (A6y x 6):=by
 rcases X3 h with rfl | rfl | rfl | rfl | rfl <;> (delta A0x; kernel_rfl)
theorem F2c (f:Fea) (x:Frm) {q:Int} (h:0<=q/\q < 5):A0x (setF f q) (A6y x 7):=by
 rcases X3 h with rfl | rfl | rfl | rfl | rfl <;> (delta A0x; kernel_rfl)
theorem F2d (f:Fea) (x:Frm) {q:Int} (h:0<=q/\q < 5):A0x (setF f q) (A6y x 8):=by
 rcases X3 h with rfl | rfl | rfl | rfl | rfl <;> (delta A0x; kernel_rfl)
theorem E1j (f:Fea) (x:Frm) (h:0<=f.k/\f.k < 5) (h2:0<=x.k/\x.k < 9):A0x f x:=by
 obtain ⟨k,u,t,m,l⟩:=x
 rcases C5r h2 with h3 | h3 | h3 | h3 | h3 | h3 | h3 | h3 | h3 <;> (simp only at h3; subst h3)
 ·exact F1v f ⟨0,u,t,m,l⟩ h
 ·exact F1w f ⟨0,u,t,m,l⟩ h
 ·exact F1x f ⟨0,u,t,m,l⟩ h
 ·exact F1y f ⟨0,u,t,m,l⟩ h
 ·exact F1z f ⟨0,u,t,m,l⟩ h
 ·exact F2a f ⟨0,u,t,m,l⟩ h
 ·exact F2b f ⟨0,u,t,m,l⟩ h
 ·exact F2c f ⟨0,u,t,m,l⟩ h
 ·exact F2d f ⟨0,u,t,m,l⟩ h
end Go.Proofs.Tryz
namespace Go.Proofs.Tryz
open Go.Ad
theorem F2e (f:Fea) (x:Frm) {q:Int} (h:0<=q/\q < 5):A0y (setF f q) (A6y x 0):=by
 rcases X3 h with rfl | rfl | rfl | rfl | rfl <;> (delta A0y; kernel_rfl)
theorem F2f (f:Fea) (x:Frm) {q:Int} (h:0<=q/\q < 5):A0y (setF f q) (A6y x 1):=by
 rcases X3 h with rfl | rfl | rfl | rfl | rfl <;> (delta A0y; kernel_rfl)
theorem F2g (f:Fea) (x:Frm) {q:Int} (h:0<=q/\q < 5):A0y (setF f q) (A6y x 2):=by
 rcases X3 h with rfl | rfl | rfl | rfl | rfl <;> (delta A0y; kernel_rfl)
theorem F2h (f:Fea) (x:Frm) {q:Int} (h:0<=q/\q < 5):A0y (setF f q) (A6y x 3):=by
 rcases X3 h with rfl | rfl | rfl | rfl | rfl <;> (delta A0y; kernel_rfl)
theorem F2i (f:Fea) (x:Frm) {q:Int} (h:0<=q/\q < 5):A0y (setF f q) (A6y x 4):=by
 rcases X3 h with rfl | rfl | rfl | rfl | rfl <;> (delta A0y; kernel_rfl)
theorem F2j (f:Fea) (x:Frm) {q:Int} (h:0<=q/\q < 5):A0y (setF f q) (A6y x 5):=by
 rcases X3 h with rfl | rfl | rfl | rfl | rfl <;> (delta A0y; kernel_rfl)
theorem F2k (f:Fea) (x:Frm) {q:Int} (h:0<=q/\q < 5):A0y (setF f q) (A6y x 6):=by
 rcases X3 h with rfl | rfl | rfl | rfl | rfl <;> (delta A0y; kernel_rfl)
theorem F2l (f:Fea) (x:Frm) {q:Int} (h:0<=q/\q < 5):A0y (setF f q) (A6y x 7):=by
 rcases X3 h with rfl | rfl | rfl | rfl | rfl <;> (delta A0y; kernel_rfl)
theorem F2m (f:Fea) (x:Frm) {q:Int} (h:0<=q/\q < 5):A0y (setF f q) (A6y x 8):=by
 rcases X3 h with rfl | rfl | rfl | rfl | rfl <;> (delta A0y; kernel_rfl)
theorem E1k (f:Fea) (x:Frm) (h:0<=f.k/\f.k < 5) (h2:0<=x.k/\x.k < 9):A0y f x:=by
 obtain ⟨k,u,t,m,l⟩:=x
 rcases C5r h2 with h3 | h3 | h3 | h3 | h3 | h3 | h3 | h3 | h3 <;> (simp only at h3; subst h3)
 ·exact F2e f ⟨0,u,t,m,l⟩ h
 ·exact F2f f ⟨0,u,t,m,l⟩ h
 ·exact F2g f ⟨0,u,t,m,l⟩ h
 ·exact F2h f ⟨0,u,t,m,l⟩ h
 ·exact F2i f ⟨0,u,t,m,l⟩ h
 ·exact F2j f ⟨0,u,t,m,l⟩ h
 ·exact F2k f ⟨0,u,t,m,l⟩ h
 ·exact F2l f ⟨0,u,t,m,l⟩ h
 ·exact F2m f ⟨0,u,t,m,l⟩ h
end Go.Proofs.Tryz
namespace Go.Proofs.Tryz
open Go.Ad
theorem C9w {A:Amb} (hG:gN prog<=A.G) {q:Prims} (hq:PrimOK prog A q) {f:FuncId} {fn:Func} (hf:prog.funcs[f]?=some fn) (hc:fn.body.isSome=true):PrimOK prog A (q.addt f fun _=>.fail) :=
 PrimOK.addD F7 F8 hq hG hf hc fun _ _ h=>by cases h
theorem B8a (f:Fea):(⟨f.s,f.k,f.a,f.x,f.y,f.z,f.lo,f.hi,ofR Frm.fv f.l.length (A7 Frm.fv f.l)⟩:Fea)=f:=by rw [J3 Frm.inj]
theorem E4j (x:Frm):(⟨x.k,x.d,x.t,x.m,ofR Dat.fv x.l.length (A7 Dat.fv x.l)⟩:Frm)=x:=by rw [J3 Dat.inj]
theorem E9w (l:List Dat):szD (ofR Dat.fv l.length (A7 Dat.fv l))=szD l:=by rw [J3 Dat.inj]
def nmD (f:Fea) (x:Frm):Bool:=fdE D5y C0g (f,x)
def X6 (f:Fea) (x:Frm):Int:=if J9 f ≠ 0 then J9 f else if K7 x ≠ 0 then K7 x else if onT x.k f.k=false then 14 else if x.d=true/\dcT x.k f.k=false then 3 else if x.t=0/\x.m ≠ 1 then 10
 else if x.m ≠ 0/\mtT x.k f.k=false then 3 else if (x.l.length:Int) < lsT x.k then 13 else if (x.l.length:Int) > msT x.k then 5 else if nmD f x=false then 7 else 0
def D6c:Prims:=(pPl.addt 158 fun _=>.fail).addt 202 fun _=>.fail
theorem B0a {f:Fea} (h:J9 f=0):0<=f.k/\f.k < 5:=by
 refine Classical.byContradiction fun hn=>?_
 unfold J9 at h
 split at h
 ·omega
 ·rw [if_pos (by omega)] at h; omega
theorem B0b {x:Frm} (h:K7 x=0):0<=x.k/\x.k < 9:=by
 refine Classical.byContradiction fun hn=>?_
 unfold K7 at h
 rw [if_pos (by omega)] at h; omega
theorem C1x {x:Frm} (h:K7 x=0):x.l.length<=3:=by
 obtain ⟨k,u,t,m,l⟩:=x
 match l with
 | [] | [_] | [_,_] | [_,_,_]=>simp
 | a :: b :: c :: d :: r =>
  unfold K7 at h
  split at h
  ·omega
  ·split at h
   ·omega
   ·split at h
    ·omega
    ·simp only [A2m] at h; omega
end Go.Proofs.Tryz
namespace Go.Proofs.Tryz
open Go.Ad
theorem F5h (f:Fea) (x:Frm):(D5 prog D6c 60).call 107 [.agg f.av,.agg x.av] (Bg 8) F9 =
  brK (D8 (okR Frm.fv f.l.length (A7 Frm.fv f.l))) (brK (I5 f.s) (brK (J9 { s:=f.s,k:=f.k,a:=f.a,x:=f.x,y:=f.y,z:=f.z,lo:=f.lo,hi:=f.hi,l:=ofR Frm.fv f.l.length (A7 Frm.fv f.l) } != 0) (some (.sint IntKind.i64 (J9 { s:=f.s,k:=f.k,a:=f.a,x:=f.x,y:=f.y,z:=f.z,lo:=f.lo,hi:=f.hi,l:=ofR Frm.fv f.l.length (A7 Frm.fv f.l) }))) (brK (D8 (okR Dat.fv x.l.length (A7 Dat.fv x.l))) (brK (szD (ofR Dat.fv x.l.length (A7 Dat.fv x.l))) (brK (K7 { k:=x.k,d:=x.d,t:=x.t,m:=x.m,l:=ofR Dat.fv x.l.length (A7 Dat.fv x.l) } != 0) (some (.sint IntKind.i64 (K7 { k:=x.k,d:=x.d,t:=x.t,m:=x.m,l:=ofR Dat.fv x.l.length (A7 Dat.fv x.l) }))) none) none) none)) none) none:=by kernel_rfl
theorem G0l (f:Fea) (x:Frm) (hz:I5 f.s=true) (hd:szD x.l=true) (he:J9 f ≠ 0 \/ K7 x ≠ 0):∃ v,(D5 prog D6c 60).call 107 [.agg f.av,.agg x.av] (Bg 8) F9=some v/\R3 (X6 f x) v:=by
 rw [F5h]
 simp only [L8,B8a,E4j,E9w]
 by_cases c1:J9 f ≠ 0
 ·apply exV
  focus
   repeat first
    | exact rfl
    | refine A8 rfl ?_
    | refine C8 rfl ?_
    | refine A8 (by simp only [SBs]; omega) ?_
    | refine C8 (by simp only [SBs]; omega) ?_
    | refine A8 hz ?_
    | refine A8 hd ?_
    | refine A8 (L8 _) ?_
  focus
   first
    | apply viI
    | apply viS
   dsimp only [X6]
   repeat first
    | exact rfl
    | refine I7 (by omega) ?_
    | refine G7 (by omega) ?_
 apply exV
 focus
  repeat first
   | exact rfl
   | refine A8 rfl ?_
   | refine C8 rfl ?_
   | refine A8 (by simp only [SBs]; omega) ?_
   | refine C8 (by simp only [SBs]; omega) ?_
   | refine A8 hz ?_
   | refine A8 hd ?_
   | refine A8 (L8 _) ?_
 focus
  first
   | apply viI
   | apply viS
  dsimp only [X6]
  repeat first
   | exact rfl
   | refine I7 (by omega) ?_
   | refine G7 (by omega) ?_
theorem F5i (f:Fea) (x:Frm):(D5 prog D6c 60).call 151 [.agg f.av,.agg x.av] (Bg 8) F9 =
  brK (D8 (okR Frm.fv f.l.length (A7 Frm.fv f.l))) (brK (I5 f.s) (brK (J9 { s:=f.s,k:=f.k,a:=f.a,x:=f.x,y:=f.y,z:=f.z,lo:=f.lo,hi:=f.hi,l:=ofR Frm.fv f.l.length (A7 Frm.fv f.l) } != 0) (some (.sint IntKind.i64 (J9 { s:=f.s,k:=f.k,a:=f.a,x:=f.x,y:=f.y,z:=f.z,lo:=f.lo,hi:=f.hi,l:=ofR Frm.fv f.l.length (A7 Frm.fv f.l) }))) (brK (D8 (okR Dat.fv x.l.length (A7 Dat.fv x.l))) (brK (szD (ofR Dat.fv x.l.length (A7 Dat.fv x.l))) (brK (K7 { k:=x.k,d:=x.d,t:=x.t,m:=x.m,l:=ofR Dat.fv x.l.length (A7 Dat.fv x.l) } != 0) (some (.sint IntKind.i64 (K7 { k:=x.k,d:=x.d,t:=x.t,m:=x.m,l:=ofR Dat.fv x.l.length (A7 Dat.fv x.l) }))) none) none) none)) none) none:=by kernel_rfl
theorem G0m (f:Fea) (x:Frm) (hz:I5 f.s=true) (hd:szD x.l=true) (he:J9 f ≠ 0 \/ K7 x ≠ 0):∃ v,(D5 prog D6c 60).call 151 [.agg f.av,.agg x.av] (Bg 8) F9=some v/\R3 (X6 f x) v:=by
 rw [F5i]
 simp only [L8,B8a,E4j,E9w]
 by_cases c1:J9 f ≠ 0
 ·apply exV
  focus
   repeat first
    | exact rfl
    | refine A8 rfl ?_
    | refine C8 rfl ?_
    | refine A8 (by simp only [SBs]; omega) ?_
    | refine C8 (by simp only [SBs]; omega) ?_
    | refine A8 hz ?_
    | refine A8 hd ?_
    | refine A8 (L8 _) ?_
  focus
   first
    | apply viI
    | apply viS
   dsimp only [X6]
   repeat first
    | exact rfl
    | refine I7 (by omega) ?_
    | refine G7 (by omega) ?_
 apply exV
 focus
  repeat first
   | exact rfl
   | refine A8 rfl ?_
   | refine C8 rfl ?_
   | refine A8 (by simp only [SBs]; omega) ?_
   | refine C8 (by simp only [SBs]; omega) ?_
   | refine A8 hz ?_
   | refine A8 hd ?_
   | refine A8 (L8 _) ?_
 focus
  first
   | apply viI
   | apply viS
  dsimp only [X6]
  repeat first
   | exact rfl
   | refine I7 (by omega) ?_
   | refine G7 (by omega) ?_
end Go.Proofs.Tryz
namespace Go.Proofs.Tryz
open Go.Ad
theorem G8r {dc u:Bool} {r:Option AV} (h:¬ (u=true/\dc=false)):uT dc u r=r:=by cases u <;> cases dc <;> first | rfl | exact absurd ⟨rfl,rfl⟩ h
theorem G8q {dc u:Bool} {r:Option AV} (h:u=true/\dc=false):uT dc u r=some (.int .i64 3):=by rw [h.1,h.2]; rfl
theorem G8p {t m:Int} {r:Option AV} (h:¬ (t=0/\m ≠ 1)):tT t m r=r:=by
 unfold tT
 by_cases h1:t=0
 ·have h2:m=1:=Classical.byContradiction fun h2=>h ⟨h1,h2⟩
  subst h1 h2; rfl
 ·rw [show (t == 0)=false by simpa using h1]; rfl
theorem G8o {t m:Int} {r:Option AV} (h:t=0/\m ≠ 1):tT t m r=some (.int .i64 10):=by
 unfold tT
 rw [show (t == 0)=true by simpa using h.1,show (m != 1)=true by simpa using h.2]; rfl
theorem G7h {mt:Bool} {m:Int} {r:Option AV} (h:¬ (m ≠ 0/\mt=false)):mT mt m r=r:=by
 unfold mT
 cases mt with
 | true=>cases (m != 0) <;> rfl
 | false =>
  have h1:m=0:=Classical.byContradiction fun h1=>h ⟨h1,rfl⟩
  subst h1; rfl
theorem G7g {mt:Bool} {m:Int} {r:Option AV} (h:m ≠ 0/\mt=false):mT mt m r=some (.int .i64 3):=by
 unfold mT
 rw [show (m != 0)=true by simpa using h.1,h.2]; rfl
theorem E4i {f:Fea} {x:Frm} {v7:AV} (hv:R3 7 v7) (he:J9 f=0) (hp:K7 x=0):∃ v,frT f x true (nmD f x) v7=some v/\R3 (X6 f x) v:=by
 unfold frT X6
 rw [if_neg (by omega),if_neg (by omega)]
 by_cases c0:onT x.k f.k=false
 ·rw [c0,if_pos rfl]; exact ⟨_,rfl,.inl rfl⟩
 rw [if_neg c0,show onT x.k f.k=true by simpa using c0,cond_true]
 by_cases c1:x.d=true/\dcT x.k f.k=false
 ·rw [G8q c1,if_pos c1]; exact ⟨_,rfl,.inl rfl⟩
 rw [G8r c1,if_neg c1]
 by_cases c2:x.t=0/\x.m ≠ 1
 ·rw [G8o c2,if_pos c2]; exact ⟨_,rfl,.inl rfl⟩
 rw [G8p c2,if_neg c2]
 by_cases c3:x.m ≠ 0/\mtT x.k f.k=false
 ·rw [G7g c3,if_pos c3]; exact ⟨_,rfl,.inl rfl⟩
 rw [G7h c3,if_neg c3]
 unfold nT
 by_cases c4:(x.l.length:Int) < lsT x.k
 ·rw [dT c4,if_pos c4]; exact ⟨_,rfl,.inl rfl⟩
 rw [dF c4,if_neg c4]
 by_cases c5:(x.l.length:Int) > msT x.k
 ·rw [dT c5,if_pos c5]; exact ⟨_,rfl,.inl rfl⟩
 rw [dF c5,if_neg c5]
 cases nmD f x with
 | true=>exact ⟨_,rfl,.inl rfl⟩
 | false=>exact ⟨v7,rfl,hv⟩
theorem D9k {f:Fea} {x:Frm} {r:Option AV} (hz:I5 f.s=true) (hd:szD x.l=true) (he:J9 f=0) (hp:K7 x=0):E2b f x r=r:=by
 unfold E2b
 simp only [L8,B8a,E4j,E9w,hz,hd,he,hp]
 rfl
theorem E4g (f:Fea) (x:Frm) (hz:I5 f.s=true) (hd:szD x.l=true):∃ v,((D5 prog D6b 60).call 107 [.agg f.av,.agg x.av] (Bg 8) F9=some v \/ (D5 prog D6c 60).call 107 [.agg f.av,.agg x.av] (Bg 8) F9=some v)/\R3 (X6 f x) v:=by
 by_cases h:J9 f ≠ 0 \/ K7 x ≠ 0
 ·obtain ⟨v,h1,h2⟩:=G0l f x hz hd h
  exact ⟨v,.inr h1,h2⟩
 ·have he:J9 f=0:=by omega
  have hp:K7 x=0:=by omega
  have h1:(D5 prog D6b 60).call 107 [.agg f.av,.agg x.av] (Bg 8) F9=E2b f x (frT f x (fdC B5p A5w B8h (F3f f x)) (fdE E1z C3f (A5w (F3f f x))) (.int .i64 7)):=E1j f x (B0a he) (B0b hp)
  have hl:=C1x hp
  rw [D9k hz hd he hp,F9v (by omega),C1i] at h1
  obtain ⟨v,h3,h4⟩:=E4i (v7:=.int .i64 7) (.inl rfl) he hp
  exact ⟨v,.inl (h1.trans h3),h4⟩
theorem E4h (f:Fea) (x:Frm) (hz:I5 f.s=true) (hd:szD x.l=true):∃ v,((D5 prog D6b 60).call 151 [.agg f.av,.agg x.av] (Bg 8) F9=some v \/ (D5 prog D6c 60).call 151 [.agg f.av,.agg x.av] (Bg 8) F9=some v)/\R3 (X6 f x) v:=by
 by_cases h:J9 f ≠ 0 \/ K7 x ≠ 0
 ·obtain ⟨v,h1,h2⟩:=G0m f x hz hd h
  exact ⟨v,.inr h1,h2⟩
 ·have he:J9 f=0:=by omega
  have hp:K7 x=0:=by omega
  have h1:(D5 prog D6b 60).call 151 [.agg f.av,.agg x.av] (Bg 8) F9=E2b f x (frT f x (fdC B5o A5v B8g (F3e f x)) (fdE D5y C0g (A5v (F3e f x))) (.sint .i64 7)):=E1k f x (B0a he) (B0b hp)
  have hl:=C1x hp
  rw [D9k hz hd he hp,F9u (by omega),C1h] at h1
  obtain ⟨v,h3,h4⟩:=E4i (v7:=.sint .i64 7) (.inr rfl) he hp
  exact ⟨v,.inl (h1.trans h3),h4⟩
def VFr (x:Fea × Frm):Tr AV:=.br (I5 x.1.s && szD x.2.l) (.leaf (.sint .i64 (X6 x.1 x.2))) .fail
def pFr:Prims:=(pFe.addt 107 (R6 A8w VFr)).addt 151 (R6 A8w VFr)
theorem G0s {A:Amb} (hT:Tab A) (hG:gN prog<=A.G):PrimOK prog A pFr:=by
 have h1:=F4d hT hG
 have h2:PrimOK prog A D6c:=C9w hG (C9w hG (E7r hT hG) func158 (by kernel_rfl)) func202 (by kernel_rfl)
 refine B1c hG h1 h2 (B1c hG h1 h2 (D6a hT hG) A8w VFr func107 (by kernel_rfl) fun x v hv=>?_) A8w VFr func151 (by kernel_rfl) fun x v hv=>?_
 ·obtain ⟨hz,hv⟩:=Tr.br1 hv
  cases hv
  rw [Bool.and_eq_true] at hz
  obtain ⟨v',h1,h2⟩:=E4g x.1 x.2 hz.1 hz.2
  exact ⟨v',h1,H6 h2,K4 h2⟩
 ·obtain ⟨hz,hv⟩:=Tr.br1 hv
  cases hv
  rw [Bool.and_eq_true] at hz
  obtain ⟨v',h1,h2⟩:=E4h x.1 x.2 hz.1 hz.2
  exact ⟨v',h1,H6 h2,K4 h2⟩
end Go.Proofs.Tryz
namespace Go.Proofs.Tryz
open Go.Ad
def A1e (x:Fea) (n:Nat) (k:Int):Bool:=(x.l.take n).any fun y=>y.k == k
def A0b (x:Fea) (n:Nat):Int:=if X6 x (F6 x n) ≠ 0 then X6 x (F6 x n) else if A1e x n (F6 x n).k=true then 7 else 0
def szF (x:Fea):Bool:=I5 x.s && x.l.all fun y=>szD y.l
theorem D6k {x:Fea} {n:Nat} (h:n < x.l.length) (k:Int):A1e x (n+1) k=(A1e x n k || ((x.l.getD n default).k == k)):=by
 unfold A1e
 rw [List.take_succ_eq_append_getElem h,List.any_append]
 simp [List.getD_eq_getElem?_getD,h]
theorem E3x {f:Fea} {x:Frm} (h:X6 f x=0):K7 x=0:=by
 refine Classical.byContradiction fun hn=>?_
 unfold X6 at h
 split at h
 ·omega
 ·exact hn h
theorem E9x {x:Fea} (h:szF x=true) {n:Nat} (hn:n < x.l.length):szD (x.l.getD n default).l=true:=by
 unfold szF at h
 rw [Bool.and_eq_true,List.all_eq_true] at h
 refine h.2 _ ?_
 rw [List.getD_eq_getElem?_getD,List.getElem?_eq_getElem hn]
 exact List.getElem_mem hn
end Go.Proofs.Tryz
namespace Go.Proofs.Tryz
open Go.Ad
def D4e:Code:=I9 (J7 0 (f93.body.getD .skip))
def sp93:SP:=⟨dr 1++[.is (.ptr (some (8,0)))]++dr 2++[.is (.ptr (some (9,0)))]++dr 13++[.flist 5]++[.int .i64]++[.int .i64]++dr 17,dd8++[.any,.cells [.bool,.bool,.bool,.bool,.bool,.bool,.bool,.bool,.bool] 0 true 172]⟩
def E0f:AEx->SP
 | .ret=>⟨dr 2++[.int .i64]++dr 35,dd8++[.any,.cells [.drop,.drop,.drop,.drop,.drop,.drop,.drop,.drop,.drop] 0 true 172]⟩
 | .exit 0=>⟨dr 38,dd8++[.any,.cells [.drop,.drop,.drop,.drop,.drop,.drop,.drop,.drop,.drop] 0 true 172]⟩
 | _=>sp93
theorem F5f (f:Fea) (n:Int) (b0 b1 b2 b3 b4 b5 b6 b7 b8:Bool):F3 prog (D5 prog pFr 60) (pFr.blk 93) D4e (sp93.rho [.n f.l.length,.fr (A7 Frm.fv f.l),.i f.l.length,.i n,.o (D7 f),.b b0,.b b1,.b b2,.b b3,.b b4,.b b5,.b b6,.b b7,.b b8]) (sp93.heap [.n f.l.length,.fr (A7 Frm.fv f.l),.i f.l.length,.i n,.o (D7 f),.b b0,.b b1,.b b2,.b b3,.b b4,.b b5,.b b6,.b b7,.b b8]) (H9 E0f 10 [9]) =
  brK (decide (n < (f.l.length:Int))) (brK (decide (0<=n/\n < (f.l.length:Int))) (brK (D8 (okR Frm.fv f.l.length (A7 Frm.fv f.l)) && D8 (okR Dat.fv (f.l.getD n.toNat default).l.length (A7 Dat.fv (f.l.getD n.toNat default).l))) (brK (I5 f.s && szD (ofR Dat.fv (f.l.getD n.toNat default).l.length (A7 Dat.fv (f.l.getD n.toNat default).l))) (brK (X6 { s:=f.s,k:=f.k,a:=f.a,x:=f.x,y:=f.y,z:=f.z,lo:=f.lo,hi:=f.hi,l:=ofR Frm.fv f.l.length (A7 Frm.fv f.l) } { k:=(f.l.getD n.toNat default).k,d:=(f.l.getD n.toNat default).d,t:=(f.l.getD n.toNat default).t,m:=(f.l.getD n.toNat default).m,l:=ofR Dat.fv (f.l.getD n.toNat default).l.length (A7 Dat.fv (f.l.getD n.toNat default).l) } != 0) (some (.ret,[.i (X6 { s:=f.s,k:=f.k,a:=f.a,x:=f.x,y:=f.y,z:=f.z,lo:=f.lo,hi:=f.hi,l:=ofR Frm.fv f.l.length (A7 Frm.fv f.l) } { k:=(f.l.getD n.toNat default).k,d:=(f.l.getD n.toNat default).d,t:=(f.l.getD n.toNat default).t,m:=(f.l.getD n.toNat default).m,l:=ofR Dat.fv (f.l.getD n.toNat default).l.length (A7 Dat.fv (f.l.getD n.toNat default).l) }),.o (D7 f)])) (brK (decide ((f.l.getD n.toNat default).k=0)) (brK (b0) (some (.ret,[.i (7),.o (D7 f)])) (brK (decide ((f.l.getD n.toNat default).k=0)) (some (.normal,[.n (f.l.length),.fr (A7 Frm.fv f.l),.i ((f.l.length:Int)),.i (W (n+1)),.o (D7 f),.b (true),.b (b1),.b (b2),.b (b3),.b (b4),.b (b5),.b (b6),.b (b7),.b (b8)])) (brK (decide ((f.l.getD n.toNat default).k=1)) (some (.normal,[.n (f.l.length),.fr (A7 Frm.fv f.l),.i ((f.l.length:Int)),.i (W (n+1)),.o (D7 f),.b (b0),.b (true),.b (b2),.b (b3),.b (b4),.b (b5),.b (b6),.b (b7),.b (b8)])) (brK (decide ((f.l.getD n.toNat default).k=2)) (some (.normal,[.n (f.l.length),.fr (A7 Frm.fv f.l),.i ((f.l.length:Int)),.i (W (n+1)),.o (D7 f),.b (b0),.b (b1),.b (true),.b (b3),.b (b4),.b (b5),.b (b6),.b (b7),.b (b8)])) (brK (decide ((f.l.getD n.toNat default).k=3)) (some (.normal,[.n (f.l.length),.fr (A7 Frm.fv f.l),.i ((f.l.length:Int)),.i (W (n+1)),.o (D7 f),.b (b0),.b (b1),.b (b2),.b (true),.b (b4),.b (b5),.b (b6),.b (b7),.b (b8)])) (brK (decide ((f.l.getD n.toNat default).k=4)) (some (.normal,[.n (f.l.length),.fr (A7 Frm.fv f.l),.i ((f.l.length:Int)),.i (W (n+1)),.o (D7 f),.b (b0),.b (b1),.b (b2),.b (b3),.b (true),.b (b5),.b (b6),.b (b7),.b (b8)])) (brK (decide ((f.l.getD n.toNat default).k=5)) (some (.normal,[.n (f.l.length),.fr (A7 Frm.fv f.l),.i ((f.l.length:Int)),.i (W (n+1)),.o (D7 f),.b (b0),.b (b1),.b (b2),.b (b3),.b (b4),.b (true),.b (b6),.b (b7),.b (b8)])) (brK (decide ((f.l.getD n.toNat default).k=6)) (some (.normal,[.n (f.l.length),.fr (A7 Frm.fv f.l),.i ((f.l.length:Int)),.i (W (n+1)),.o (D7 f),.b (b0),.b (b1),.b (b2),.b (b3),.b (b4),.b (b5),.b (true),.b (b7),.b (b8)])) (brK (decide ((f.l.getD n.toNat default).k=7)) (some (.normal,[.n (f.l.length),.fr (A7 Frm.fv f.l),.i ((f.l.length:Int)),.i (W (n+1)),.o (D7 f),.b (b0),.b (b1),.b (b2),.b (b3),.b (b4),.b (b5),.b (b6),.b (true),.b (b8)])) (brK (decide ((f.l.getD n.toNat default).k=8)) (some (.normal,[.n (f.l.length),.fr (A7 Frm.fv f.l),.i ((f.l.length:Int)),.i (W (n+1)),.o (D7 f),.b (b0),.b (b1),.b (b2),.b (b3),.b (b4),.b (b5),.b (b6),.b (b7),.b (true)])) none)))))))))) (brK (decide ((f.l.getD n.toNat default).k=1)) (brK (b1) (some (.ret,[.i (7),.o (D7 f)])) (brK (decide ((f.l.getD n.toNat default).k=0)) (some (.normal,[.n (f.l.length),.fr (A7 Frm.fv f.l),.i ((f.l.length:Int)),.i (W (n+1)),.o (D7 f),.b (true),.b (b1),.b (b2),.b (b3),.b (b4),.b (b5),.b (b6),.b (b7),.b (b8)])) (brK (decide ((f.l.getD n.toNat default).k=1)) (some (.normal,[.n (f.l.length),.fr (A7 Frm.fv f.l),.i ((f.l.length:Int)),.i (W (n+1)),.o (D7 f),.b (b0),.b (true),.b (b2),.b (b3),.b (b4),.b (b5),.b (b6),.b (b7),.b (b8)])) (brK (decide ((f.l.getD n.toNat default).k=2)) (some (.normal,[.n (f.l.length),.fr (A7 Frm.fv f.l),.i ((f.l.length:Int)),.i (W (n+1)),.o (D7 f),.b (b0),.b (b1),.b (true),.b (b3),.b (b4),.b (b5),.b (b6),.b (b7),.b (b8)])) (brK (decide ((f.l.getD n.toNat default).k=3)) (some (.normal,[.n (f.l.length),.fr (A7 Frm.fv f.l),.i ((f.l.length:Int)),.i (W (n+1)),.o (D7 f),.b (b0),.b (b1),.b (b2),.b (true),.b (b4),.b (b5),.b (b6),.b (b7),.b (b8)])) (brK (decide ((f.l.getD n.toNat default).k=4)) (some (.normal,[.n (f.l.length),.fr (A7 Frm.fv f.l),.i ((f.l.length:Int)),.i (W (n+1)),.o (D7 f),.b (b0),.b (b1),.b (b2),.b (b3),.b (true),.b (b5),.b (b6),.b (b7),.b (b8)])) (brK (decide ((f.l.getD n.toNat default).k=5)) (some (.normal,[.n (f.l.length),.fr (A7 Frm.fv f.l),.i ((f.l.length:Int)),.i (W (n+1)),.o (D7 f),.b (b0),.b (b1),.b (b2),.b (b3),.b (b4),.b (true),.b (b6),.b (b7),.b (b8)])) (brK (decide ((f.l.getD n.toNat default).k=6)) (some (.normal,[.n (f.l.length),.fr (A7 Frm.fv f.l),.i ((f.l.length:Int)),.i (W (n+1)),.o (D7 f),.b (b0),.b (b1),.b (b2),.b (b3),.b (b4),.b (b5),.b (true),.b (b7),.b (b8)])) (brK (decide ((f.l.getD n.toNat default).k=7)) (some (.normal,[.n (f.l.length),.fr (A7 Frm.fv f.l),.i ((f.l.length:Int)),.i (W (n+1)),.o (D7 f),.b (b0),.b (b1),.b (b2),.b (b3),.b (b4),.b (b5),.b (b6),.b (true),.b (b8)])) (brK (decide ((f.l.getD n.toNat default).k=8)) (some (.normal,[.n (f.l.length),.fr (A7 Frm.fv f.l),.i ((f.l.length:Int)),.i (W (n+1)),.o (D7 f),.b (b0),.b (b1),.b (b2),.b (b3),.b (b4),.b (b5),.b (b6),.b (b7),.b (true)])) none)))))))))) (brK (decide ((f.l.getD n.toNat default).k=2)) (brK (b2) (some (.ret,[.i (7),.o (D7 f)])) (brK (decide ((f.l.getD n.toNat default).k=0)) (some (.normal,[.n (f.l.length),.fr (A7 Frm.fv f.l),.i ((f.l.length:Int)),.i (W (n+1)),.o (D7 f),.b (true),.b (b1),.b (b2),.b (b3),.b (b4),.b (b5),.b (b6),.b (b7),.b (b8)])) (brK (decide ((f.l.getD n.toNat default).k=1)) (some (.normal,[.n (f.l.length),.fr (A7 Frm.fv f.l),.i ((f.l.length:Int)),.i (W (n+1)),.o (D7 f),.b (b0),.b (true),.b (b2),.b (b3),.b (b4),.b (b5),.b (b6),.b (b7),.b (b8)])) (brK (decide ((f.l.getD n.toNat default).k=2)) (some (.normal,[.n (f.l.length),.fr (A7 Frm.fv f.l),.i ((f.l.length:Int)),.i (W (n+1)),.o (D7 f),.b (b0),.b (b1),.b (true),.b (b3),.b (b4),.b (b5),.b (b6),.b (b7),.b (b8)])) (brK (decide ((f.l.getD n.toNat default).k=3)) (some (.normal,[.n (f.l.length),.fr (A7 Frm.fv f.l),.i ((f.l.length:Int)),.i (W (n+1)),.o (D7 f),.b (b0),.b (b1),.b (b2),.b (true),.b (b4),.b (b5),.b (b6),.b (b7),.b (b8)])) (brK (decide ((f.l.getD n.toNat default).k=4)) (some (.normal,[.n (f.l.length),.fr (A7 Frm.fv f.l),.i ((f.l.length:Int)),.i (W (n+1)),.o (D7 f),.b (b0),.b (b1),.b (b2),.b (b3),.b (true),.b (b5),.b (b6),.b (b7),.b (b8)])) (brK (decide ((f.l.getD n.toNat default).k=5)) (some (.normal,[.n (f.l.length),.fr (A7 Frm.fv f.l),.i ((f.l.length:Int)),.i (W (n+1)),.o (D7 f),.b (b0),.b (b1),.b (b2),.b (b3),.b (b4),.b (true),.b (b6),.b (b7),.b (b8)])) (brK (decide ((f.l.getD n.toNat default).k=6)) (some (.normal,[.n (f.l.length),.fr (A7 Frm.fv f.l),.i ((f.l.length:Int)),.i (W (n+1)),.o (D7 f),.b (b0),.b (b1),.b (b2),.b (b3),.b (b4),.b (b5),.b (true),.b (b7),.b (b8)])) (brK (decide ((f.l.getD n.toNat default).k=7)) (some (.normal,[.n (f.l.length),.fr (A7 Frm.fv f.l),.i ((f.l.length:Int)),.i (W (n+1)),.o (D7 f),.b (b0),.b (b1),.b (b2),.b (b3),.b (b4),.b (b5),.b (b6),.b (true),.b (b8)])) (brK (decide ((f.l.getD n.toNat default).k=8)) (some (.normal,[.n (f.l.length),.fr (A7 Frm.fv f.l),.i ((f.l.length:Int)),.i (W (n+1)),.o (D7 f),.b (b0),.b (b1),.b (b2),.b (b3),.b (b4),.b (b5),.b (b6),.b (b7),.b (true)])) none)))))))))) (brK (decide ((f.l.getD n.toNat default).k=3)) (brK (b3) (some (.ret,[.i (7),.o (D7 f)])) (brK (decide ((f.l.getD n.toNat default).k=0)) (some (.normal,[.n (f.l.length),.fr (A7 Frm.fv f.l),.i ((f.l.length:Int)),.i (W (n+1)),.o (D7 f),.b (true),.b (b1),.b (b2),.b (b3),.b (b4),.b (b5),.b (b6),.b (b7),.b (b8)])) (brK (decide ((f.l.getD n.toNat default).k=1)) (some (.normal,[.n (f.l.length),.fr (A7 Frm.fv f.l),.i ((f.l.length:Int)),.i (W (n+1)),.o (D7 f),.b (b0),.b (true),.b (b2),.b (b3),.b (b4),.b (b5),.b (b6),.b (b7),.b (b8)])) (brK (decide ((f.l.getD n.toNat default).k=2)) (some (.normal,[.n (f.l.length),.fr (A7 Frm.fv f.l),.i ((f.l.length:Int)),.i (W (n+1)),.o (D7 f),.b (b0),.b (b1),.b (true),.b (b3),.b (b4),.b (b5),.b (b6),.b (b7),.b (b8)])) (brK (decide ((f.l.getD n.toNat default).k=3)) (some (.normal,[.n (f.l.length),.fr (A7 Frm.fv f.l),.i ((f.l.length:Int)),.i (W (n+1)),.o (D7 f),.b (b0),.b (b1),.b (b2),.b (true),.b (b4),.b (b5),.b (b6),.b (b7),.b (b8)])) (brK (decide ((f.l.getD n.toNat default).k=4)) (some (.normal,[.n (f.l.length),.fr (A7 Frm.fv f.l),.i ((f.l.length:Int)),.i (W (n+1)),.o (D7 f),.b (b0),.b (b1),.b (b2),.b (b3),.b (true),.b (b5),.b (b6),.b (b7),.b (b8)])) (brK (decide ((f.l.getD n.toNat default).k=5)) (some (.normal,[.n (f.l.length),.fr (A7 Frm.fv f.l),.i ((f.l.length:Int)),.i (W (n+1)),.o (D7 f),.b (b0),.b (b1),.b (b2),.b (b3),.b (b4),.b (true),.b (b6),.b (b7),.b (b8)])) (brK (decide ((f.l.getD n.toNat default).k=6)) (some (.normal,[.n (f.l.length),.fr (A7 Frm.fv f.l),.i ((f.l.length:Int)),.i (W (n+1)),.o (D7 f),.b (b0),.b (b1),.b (b2),.b (b3),.b (b4),.b (b5),.b (true),.b (b7),.b (b8)])) (brK (decide ((f.l.getD n.toNat default).k=7)) (some (.normal,[.n (f.l.length),.fr (A7 Frm.fv f.l),.i ((f.l.length:Int)),.i (W (n+1)),.o (D7 f),.b (b0),.b (b1),.b (b2),.b (b3),.b (b4),.b (b5),.b (b6),.b (true),.b (b8)])) (brK (decide ((f.l.getD n.toNat default).k=8)) (some (.normal,[.n (f.l.length),.fr (A7 Frm.fv f.l),.i ((f.l.length:Int)),.i (W (n+1)),.o (D7 f),.b (b0),.b (b1),.b (b2),.b (b3),.b (b4),.b (b5),.b (b6),.b (b7),.b (true)])) none)))))))))) (brK (decide ((f.l.getD n.toNat default).k=4)) (brK (b4) (some (.ret,[.i (7),.o (D7 f)])) (brK (decide ((f.l.getD n.toNat default).k=0)) (some (.normal,[.n (f.l.length),.fr (A7 Frm.fv f.l),.i ((f.l.length:Int)),.i (W (n+1)),.o (D7 f),.b (true),.b (b1),.b (b2),.b (b3),.b (b4),.b (b5),.b (b6),.b (b7),.b (b8)])) (brK (decide ((f.l.getD n.toNat default).k=1)) (some (.normal,[.n (f.l.length),.fr (A7 Frm.fv f.l),.i ((f.l.length:Int)),.i (W (n+1)),.o (D7 f),.b (b0),.b (true),.b (b2),.b (b3),.b (b4),.b (b5),.b (b6),.b (b7),.b (b8)])) (brK (decide ((f.l.getD n.toNat default).k=2)) (some (.normal,[.n (f.l.length),.fr (A7 Frm.fv f.l),.i ((f.l.length:Int)),.i (W (n+1)),.o (D7 f),.b (b0),.b (b1),.b (true),.b (b3),.b (b4),.b (b5),.b (b6),.b (b7),.b (b8)])) (brK (decide ((f.l.getD n.toNat default).k=3)) (some (.normal,[.n (f.l.length),.fr (A7 Frm.fv f.l),.i ((f.l.length:Int)),.i (W (n+1)),.o (D7 f),.b (b0),.b (b1),.b (b2),.b (true),.b (b4),.b (b5),.b (b6),.b (b7),.b (b8)])) (brK (decide ((f.l.getD n.toNat default).k=4)) (some (.normal,[.n (f.l.length),.fr (A7 Frm.fv f.l),.i ((f.l.length:Int)),.i (W (n+1)),.o (D7 f),.b (b0),.b (b1),.b (b2),.b (b3),.b (true),.b (b5),.b (b6),.b (b7),.b (b8)])) (brK (decide ((f.l.getD n.toNat default).k=5)) (some (.normal,[.n (f.l.length),.fr (A7 Frm.fv f.l),.i ((f.l.length:Int)),.i (W (n+1)),.o (D7 f),.b (b0),.b (b1),.b (b2),.b (b3),.b (b4),.b (true),.b (b6),.b (b7),.b (b8)])) (brK (decide ((f.l.getD n.toNat default).k=6)) (some (.normal,[.n (f.l.length),.fr (A7 Frm.fv f.l),.i ((f.l.length:Int)),.i (W (n+1)),.o (D7 f),.b (b0),.b (b1),.b (b2),.b (b3),.b (b4),.b (b5),.b (true),.b (b7),.b (b8)])) (brK (decide ((f.l.getD n.toNat default).k=7)) (some (.normal,[.n (f.l.length),.fr (A7 Frm.fv f.l),.i ((f.l.length:Int)),.i (W (n+1)),.o (D7 f),.b (b0),.b (b1),.b (b2),.b (b3),.b (b4),.b (b5),.b (b6),.b (true),.b (b8)])) (brK (decide ((f.l.getD n.toNat default).k=8)) (some (.normal,[.n (f.l.length),.fr (A7 Frm.fv f.l),.i ((f.l.length:Int)),.i (W (n+1)),.o (D7 f),.b (b0),.b (b1),.b (b2),.b (b3),.b (b4),.b (b5),.b (b6),.b (b7),.b (true)])) none)))))))))) (brK (decide ((f.l.getD n.toNat default).k=5)) (brK (b5) (some (.ret,[.i (7),.o (D7 f)])) (brK (decide ((f.l.getD n.toNat default).k=0)) (some (.normal,[.n (f.l.length),.fr (A7 Frm.fv f.l),.i ((f.l.length:Int)),.i (W (n+1)),.o (D7 f),.b (true),.b (b1),.b (b2),.b (b3),.b (b4),.b (b5),.b (b6),.b (b7),.b (b8)])) (brK (decide ((f.l.getD n.toNat default).k=1)) (some (.normal,[.n (f.l.length),.fr (A7 Frm.fv f.l),.i ((f.l.length:Int)),.i (W (n+1)),.o (D7 f),.b (b0),.b (true),.b (b2),.b (b3),.b (b4),.b (b5),.b (b6),.b (b7),.b (b8)])) (brK (decide ((f.l.getD n.toNat default).k=2)) (some (.normal,[.n (f.l.length),.fr (A7 Frm.fv f.l),.i ((f.l.length:Int)),.i (W (n+1)),.o (D7 f),.b (b0),.b (b1),.b (true),.b (b3),.b (b4),.b (b5),.b (b6),.b (b7),.b (b8)])) (brK (decide ((f.l.getD n.toNat default).k=3)) (some (.normal,[.n (f.l.length),.fr (A7 Frm.fv f.l),.i ((f.l.length:Int)),.i (W (n+1)),.o (D7 f),.b (b0),.b (b1),.b (b2),.b (true),.b (b4),.b (b5),.b (b6),.b (b7),.b (b8)])) (brK (decide ((f.l.getD n.toNat default).k=4)) (some (.normal,[.n (f.l.length),.fr (A7 Frm.fv f.l),.i ((f.l.length:Int)),.i (W (n+1)),.o (D7 f),.b (b0),.b (b1),.b (b2),.b (b3),.b (true),.b (b5),.b (b6),.b (b7),.b (b8)])) (brK (decide ((f.l.getD n.toNat default).k=5)) (some (.normal,[.n (f.l.length),.fr (A7 Frm.fv f.l),.i ((f.l.length:Int)),.i (W (n+1)),.o (D7 f),.b (b0),.b (b1),.b (b2),.b (b3),.b (b4),.b (true),.b (b6),.b (b7),.b (b8)])) (brK (decide ((f.l.getD n.toNat default).k=6)) (some (.normal,[.n (f.l.length),.fr (A7 Frm.fv f.l),.i ((f.l.length:Int)),.i (W (n+1)),.o (D7 f),.b (b0),.b (b1),.b (b2),.b (b3),.b (b4),.b (b5),.b (true),.b (b7),.b (b8)])) (brK (decide ((f.l.getD n.toNat default).k=7)) (some (.normal,[.n (f.l.length),.fr (A7 Frm.fv f.l),.i ((f.l.length:Int)),.i (W (n+1)),.o (D7 f),.b (b0),.b (b1),.b (b2),.b (b3),.b (b4),.b (b5),.b (b6),.b (true),.b (b8)])) (brK (decide ((f.l.getD n.toNat default).k=8)) (some (.normal,[.n (f.l.length),.fr (A7 Frm.fv f.l),.i ((f.l.length:Int)),.i (W (n+1)),.o (D7 f),.b (b0),.b (b1),.b (b2),.b (b3),.b (b4),.b (b5),.b (b6),.b (b7),.b (true)])) none)))))))))) (brK (decide ((f.l.getD n.toNat default).k=6)) (brK (b6) (some (.ret,[.i (7),.o (D7 f)])) (brK (decide ((f.l.getD n.toNat default).k=0)) (some (.normal,[.n (f.l.length),.fr (A7 Frm.fv f.l),.i ((f.l.length:Int)),.i (W (n+1)),.o (D7 f),.b (true),.b (b1),.b (b2),.b (b3),.b (b4),.b (b5),.b (b6),.b (b7),.b (b8)])) (brK (decide ((f.l.getD n.toNat default).k=1)) (some (.normal,[.n (f.l.length),.fr (A7 Frm.fv f.l),.i ((f.l.length:Int)),.i (W (n+1)),.o (D7 f),.b (b0),.b (true),.b (b2),.b (b3),.b (b4),.b (b5),.b (b6),.b (b7),.b (b8)])) (brK (decide ((f.l.getD n.toNat default).k=2)) (some (.normal,[.n (f.l.length),.fr (A7 Frm.fv f.l),.i ((f.l.length:Int)),.i (W (n+1)),.o (D7 f),.b (b0),.b (b1),.b (true),.b (b3),.b (b4),.b (b5),.b (b6),.b (b7),.b (b8)])) (brK (decide ((f.l.getD n.toNat default).k=3)) (some (.normal,[.n (f.l.length),.fr (A7 Frm.fv f.l),.i ((f.l.length:Int)),.i (W (n+1)),.o (D7 f),.b (b0),.b (b1),.b (b2),.b (true),.b (b4),.b (b5),.b (b6),.b (b7),.b (b8)])) (brK (decide ((f.l.getD n.toNat default).k=4)) (some (.normal,[.n (f.l.length),.fr (A7 Frm.fv f.l),.i ((f.l.length:Int)),.i (W (n+1)),.o (D7 f),.b (b0),.b (b1),.b (b2),.b (b3),.b (true),.b (b5),.b (b6),.b (b7),.b (b8)])) (brK (decide ((f.l.getD n.toNat default).k=5)) (some (.normal,[.n (f.l.length),.fr (A7 Frm.fv f.l),.i ((f.l.length:Int)),.i (W (n+1)),.o (D7 f),.b (b0),.b (b1),.b (b2),.b (b3),.b (b4),.b (true),.b (b6),.b (b7),.b (b8)])) (brK (decide ((f.l.getD n.toNat default).k=6)) (some (.normal,[.n (f.l.length),.fr (A7 Frm.fv f.l),.i ((f.l.length:Int)),.i (W (n+1)),.o (D7 f),.b (b0),.b (b1),.b (b2),.b (b3),.b (b4),.b (b5),.b (true),.b (b7),.b (b8)])) (brK (decide ((f.l.getD n.toNat default).k=7)) (some (.normal,[.n (f.l.length),.fr (A7 Frm.fv f.l),.i ((f.l.length:Int)),.i (W (n+1)),.o (D7 f),.b (b0),.b (b1),.b (b2),.b (b3),.b (b4),.b (b5),.b (b6),.b (true),.b (b8)])) (brK (decide ((f.l.getD n.toNat default).k=8)) (some (.normal,[.n (f.l.length),.fr (A7 Frm.fv f.l),.i ((f.l.length:Int)),.i (W (n+1)),.o (D7 f),.b (b0),.b (b1),.b (b2),.b (b3),.b (b4),.b (b5),.b (b6),.b (b7),.b (true)])) none)))))))))) (brK (decide ((f.l.getD n.toNat default).k=7)) (brK (b7) (some (.ret,[.i (7),.o (D7 f)])) (brK (decide ((f.l.getD n.toNat default).k=0)) (some (.normal,[.n (f.l.length),.fr (A7 Frm.fv f.l),.i ((f.l.length:Int)),.i (W (n+1)),.o (D7 f),.b (true),.b (b1),.b (b2),.b (b3),.b (b4),.b (b5),.b (b6),.b (b7),.b (b8)])) (brK (decide ((f.l.getD n.toNat default).k=1)) (some (.normal,[.n (f.l.length),.fr (A7 Frm.fv f.l),.i ((f.l.length:Int)),.i (W (n+1)),.o (D7 f),.b (b0),.b (true),.b (b2),.b (b3),.b (b4),.b (b5),.b (b6),.b (b7),.b (b8)])) (brK (decide ((f.l.getD n.toNat default).k=2)) (some (.normal,[.n (f.l.length),.fr (A7 Frm.fv f.l),.i ((f.l.length:Int)),.i (W (n+1)),.o (D7 f),.b (b0),.b (b1),.b (true),.b (b3),.b (b4),.b (b5),.b (b6),.b (b7),.b (b8)])) (brK (decide ((f.l.getD n.toNat default).k=3)) (some (.normal,[.n (f.l.length),.fr (A7 Frm.fv f.l),.i ((f.l.length:Int)),.i (W (n+1)),.o (D7 f),.b (b0),.b (b1),.b (b2),.b (true),.b (b4),.b (b5),.b (b6),.b (b7),.b (b8)])) (brK (decide ((f.l.getD n.toNat default).k=4)) (some (.normal,[.n (f.l.length),.fr (A7 Frm.fv f.l),.i ((f.l.length:Int)),.i (W (n+1)),.o (D7 f),.b (b0),.b (b1),.b (b2),.b (b3),.b (true),.b (b5),.b (b6),.b (b7),.b (b8)])) (brK (decide ((f.l.getD n.toNat default).k=5)) (some (.normal,[.n (f.l.length),.fr (A7 Frm.fv f.l),.i ((f.l.length:Int)),.i (W (n+1)),.o (D7 f),.b (b0),.b (b1),.b (b2),.b (b3),.b (b4),.b (true),.b (b6),.b (b7),.b (b8)])) (brK (decide ((f.l.getD n.toNat default).k=6)) (some (.normal,[.n (f.l.length),.fr (A7 Frm.fv f.l),.i ((f.l.length:Int)),.i (W (n+1)),.o (D7 f),.b (b0),.b (b1),.b (b2),.b (b3),.b (b4),.b (b5),.b (true),.b (b7),.b (b8)])) (brK (decide ((f.l.getD n.toNat default).k=7)) (some (.normal,[.n (f.l.length),.fr (A7 Frm.fv f.l),.i ((f.l.length:Int)),.i (W (n+1)),.o (D7 f),.b (b0),.b (b1),.b (b2),.b (b3),.b (b4),.b (b5),.b (b6),.b (true),.b (b8)])) (brK (decide ((f.l.getD n.toNat default).k=8)) (some (.normal,[.n (f.l.length),.fr (A7 Frm.fv f.l),.i ((f.l.length:Int)),.i (W (n+1)),.o (D7 f),.b (b0),.b (b1),.b (b2),.b (b3),.b (b4),.b (b5),.b (b6),.b (b7),.b (true)])) none)))))))))) (brK (decide ((f.l.getD n.toNat default).k=8)) (brK (b8) (some (.ret,[.i (7),.o (D7 f)])) (brK (decide ((f.l.getD n.toNat default).k=0)) (some (.normal,[.n (f.l.length),.fr (A7 Frm.fv f.l),.i ((f.l.length:Int)),.i (W (n+1)),.o (D7 f),.b (true),.b (b1),.b (b2),.b (b3),.b (b4),.b (b5),.b (b6),.b (b7),.b (b8)])) (brK (decide ((f.l.getD n.toNat default).k=1)) (some (.normal,[.n (f.l.length),.fr (A7 Frm.fv f.l),.i ((f.l.length:Int)),.i (W (n+1)),.o (D7 f),.b (b0),.b (true),.b (b2),.b (b3),.b (b4),.b (b5),.b (b6),.b (b7),.b (b8)])) (brK (decide ((f.l.getD n.toNat default).k=2)) (some (.normal,[.n (f.l.length),.fr (A7 Frm.fv f.l),.i ((f.l.length:Int)),.i (W (n+1)),.o (D7 f),.b (b0),.b (b1),.b (true),.b (b3),.b (b4),.b (b5),.b (b6),.b (b7),.b (b8)])) (brK (decide ((f.l.getD n.toNat default).k=3)) (some (.normal,[.n (f.l.length),.fr (A7 Frm.fv f.l),.i ((f.l.length:Int)),.i (W (n+1)),.o (D7 f),.b (b0),.b (b1),.b (b2),.b (true),.b (b4),.b (b5),.b (b6),.b (b7),.b (b8)])) (brK (decide ((f.l.getD n.toNat default).k=4)) (some (.normal,[.n (f.l.length),.fr (A7 Frm.fv f.l),.i ((f.l.length:Int)),.i (W (n+1)),.o (D7 f),.b (b0),.b (b1),.b (b2),.b (b3),.b (true),.b (b5),.b (b6),.b (b7),.b (b8)])) (brK (decide ((f.l.getD n.toNat default).k=5)) (some (.normal,[.n (f.l.length),.fr (A7 Frm.fv f.l),.i ((f.l.length:Int)),.i (W (n+1)),.o (D7 f),.b (b0),.b (b1),.b (b2),.b (b3),.b (b4),.b (true),.b (b6),.b (b7),.b (b8)])) (brK (decide ((f.l.getD n.toNat default).k=6)) (some (.normal,[.n (f.l.length),.fr (A7 Frm.fv f.l),.i ((f.l.length:Int)),.i (W (n+1)),.o (D7 f),.b (b0),.b (b1),.b (b2),.b (b3),.b (b4),.b (b5),.b (true),.b (b7),.b (b8)])) (brK (decide ((f.l.getD n.toNat default).k=7)) (some (.normal,[.n (f.l.length),.fr (A7 Frm.fv f.l),.i ((f.l.length:Int)),.i (W (n+1)),.o (D7 f),.b (b0),.b (b1),.b (b2),.b (b3),.b (b4),.b (b5),.b (b6),.b (true),.b (b8)])) (brK (decide ((f.l.getD n.toNat default).k=8)) (some (.normal,[.n (f.l.length),.fr (A7 Frm.fv f.l),.i ((f.l.length:Int)),.i (W (n+1)),.o (D7 f),.b (b0),.b (b1),.b (b2),.b (b3),.b (b4),.b (b5),.b (b6),.b (b7),.b (true)])) none)))))))))) none)))))))))) none) none) none) (some (.exit 0,[.o (D7 f)])):=by kernel_rfl
def L93 (x:Fea) (n:Nat):List Lf:=[.n x.l.length,.fr (A7 Frm.fv x.l),.i x.l.length,.i n,.o (D7 x),.b (A1e x n 0),.b (A1e x n 1),.b (A1e x n 2),.b (A1e x n 3),.b (A1e x n 4),.b (A1e x n 5),.b (A1e x n 6),.b (A1e x n 7),.b (A1e x n 8)]
def E2n:List Lf->Nat->List Lf
 | [_,_,_,_,.o o,_,_,_,_,_,_,_,_,_],n=>[.i (A0b (A2g o) n),.o o]
 | _,_=>[]
def F0z:List Lf->List Lf
 | [_,_,_,_,o,_,_,_,_,_,_,_,_,_]=>[o]
 | _=>[]
def N93 (x:Fea):Nat:=x.l.length
def p93 (x:Fea) (n:Nat):Bool:=decide (A0b x n=0)
def E6e (x:Fea):Prop:=x.l.length < 2 ^ 62/\szF x=true
def A6r:List Lf->Fea
 | _ :: _ :: _ :: _ :: .o o :: _=>A2g o
 | _=>default
theorem G2l (x:Fea) (hx:E6e x) (n:Nat) (hn:n<=N93 x):F3 prog (D5 prog pFr 60) (pFr.blk 93) D4e (sp93.rho (L93 x n)) (sp93.heap (L93 x n)) (H9 E0f 10 [9])=some (if n < N93 x then (bif p93 x n then (.normal,L93 x (n+1)) else (.ret,E2n (L93 x 0) n)) else (.exit 0,F0z (L93 x 0))):=by
 obtain ⟨h1,h2⟩:=hx
 simp only [L93,F0z]
 rw [F5f,I4 hn h1]
 simp only [Int.toNat_natCast,B8a,E4j,E9w,L8,Bool.and_self]
 by_cases h:n < N93 x
 ·rw [if_pos h]
  simp only [N93] at h
  have hz:(I5 x.s && szD (x.l.getD n default).l)=true:=by
   have:=h2
   rw [Bool.and_eq_true]
   refine ⟨?_,E9x h2 h⟩
   unfold szF at this
   rw [Bool.and_eq_true] at this
   exact this.1
  refine A8 (dT (by omega)) ?_
  refine A8 (dT (by omega)) ?_
  refine A8 rfl ?_
  refine A8 hz ?_
  by_cases he:X6 x (x.l.getD n default)=0
  ·refine C8 (by simpa using he) ?_
   have hk:=B0b (E3x he)
   cases hs:A1e x n (x.l.getD n default).k with
   | true =>
    have hg:A0b x n=7:=by unfold A0b; rw [if_neg (by simpa using he),if_pos hs]
    have hp:p93 x n=false:=by unfold p93; rw [hg]; rfl
    rw [hp,cond_false]
    simp only [E2n,L93,A6r,O3,hg]
    rcases C5r hk with h9 | h9 | h9 | h9 | h9 | h9 | h9 | h9 | h9 <;> rw [h9] at hs
    all_goals
     repeat first
      | exact rfl
      | refine A8 hs ?_
      | refine A8 (dT (by omega)) ?_
      | refine C8 (dF (by omega)) ?_
   | false =>
    have hg:A0b x n=0:=by unfold A0b; rw [if_neg (by simpa using he),if_neg (by simpa using hs)]
    have hp:p93 x n=true:=by unfold p93; rw [hg]; rfl
    rw [hp,cond_true]
    simp only [D6k h]
    rcases C5r hk with h9 | h9 | h9 | h9 | h9 | h9 | h9 | h9 | h9 <;> rw [h9] at hs
    all_goals
     repeat first
      | refine C8 hs ?_
      | refine A8 (dT (by omega)) ?_
      | refine C8 (dF (by omega)) ?_
     simp [-List.getD_eq_getElem?_getD,h9]
  ·refine A8 (by simpa using he) ?_
   have hg:A0b x n=X6 x (x.l.getD n default):=by unfold A0b; rw [if_pos he]
   have hp:p93 x n=false:=by unfold p93; rw [hg]; simpa using he
   rw [hp,cond_false]
   simp only [E2n,L93,A6r,O3,hg]
 ·rw [if_neg h]
  simp only [N93] at h
  refine C8 (dF (by omega)) ?_
  rfl
def G3r:Blk:=hookP sp93 10 [9] (fdT E0f 0 .ret (.exit 0) A6r L93 E2n F0z N93 p93 E6e)
theorem F3a {A:Amb} {q:Prims} (h0:PrimOK prog A pFr) (hq:PrimOK prog A q):PrimOK prog A (q.addb 93 0 G3r) :=
 SEB.findR (id:=0) (ds:=[9]) (dec:=A6r) (sp:=sp93) (sq:=E0f) (m:=10) (eb:=.ret) (ee:=.exit 0) (L:=L93) (Lb:=E2n) (Le:=F0z) (N:=N93) (p:=p93) (Inv:=E6e) (k:=60) F7 F8 h0 hq func93 (show f93.body=some (f93.body.getD .skip) by kernel_rfl) (body:=D4e) (by kernel_rfl)
  rfl rfl rfl rfl (by simp) (by simp) (fun _ _=>⟨⟨.inr rfl,.inr rfl,.inr rfl,.inr rfl,.inr rfl,.inr rfl,.inr rfl,.inr rfl,.inr rfl,.inl rfl,trivial⟩,⟨.inr rfl,.inr rfl,.inr rfl,.inr rfl,.inr rfl,.inr rfl,.inr rfl,.inr rfl,.inr rfl,.inl rfl,trivial⟩⟩) G2l
end Go.Proofs.Tryz
namespace Go.Proofs.Tryz
open Go.Ad
def C4x:Code:=I9 (J7 2 (f98.body.getD .skip))
def sp98b:SP:=⟨dr 1++[.is (.ptr (some (8,0)))]++dr 2++[.int .i64]++dr 1++[.int .i64]++dr 44,dd8++[.any]⟩
def C7q:AEx->SP
 | .ret=>⟨dr 2++[.int .i64]++dr 48,dd8++[.any]⟩
 | .exit 2=>⟨dr 1++[.is (.ptr (some (8,0)))]++dr 2++[.int .i64]++dr 46,dd8++[.any]⟩
 | _=>sp98b
theorem E9b (f:Fea) (i n:Int):F3 prog (D5 prog pFr 60) (pFr.blk 98) C4x (sp98b.rho [.i i,.i n,.o (D7 f)]) (sp98b.heap [.i i,.i n,.o (D7 f)]) (H9 C7q 9 []) =
  brK (decide (n < i)) (brK (decide (0<=n/\n < (f.l.length:Int))) (brK (decide (0<=i/\i < (f.l.length:Int))) (brK ((f.l.getD n.toNat default).k == (f.l.getD i.toNat default).k) (some (.ret,[.i (7),.o (D7 f)])) (some (.normal,[.i (i),.i (W (n+1)),.o (D7 f)]))) none) none) (some (.exit 2,[.i (i),.o (D7 f)])):=by kernel_rfl
def C0e (x:Fea × Nat) (n:Nat):List Lf:=[.i x.2,.i n,.o (D7 x.1)]
def D7i:List Lf->Nat->List Lf
 | [_,_,o],_=>[.i 7,o]
 | _,_=>[]
def D8b:List Lf->List Lf
 | [i,_,o]=>[i,o]
 | _=>[]
def B4s (x:Fea × Nat):Nat:=x.2
def C6g (x:Fea × Nat) (n:Nat):Bool:=!((F6 x.1 n).k == (F6 x.1 x.2).k)
def D0x (x:Fea × Nat):Prop:=x.2 < x.1.l.length/\x.1.l.length < 2 ^ 62
def A9y:List Lf->Fea × Nat
 | [.i i,_,.o o]=>(A2g o,i.toNat)
 | _=>default
theorem F6m (x:Fea × Nat) (hx:D0x x) (n:Nat) (hn:n<=B4s x):F3 prog (D5 prog pFr 60) (pFr.blk 98) C4x (sp98b.rho (C0e x n)) (sp98b.heap (C0e x n)) (H9 C7q 9 [])=some (if n < B4s x then (bif C6g x n then (.normal,C0e x (n+1)) else (.ret,D7i (C0e x 0) n)) else (.exit 2,D8b (C0e x 0))):=by
 obtain ⟨h1,h2⟩:=hx
 simp only [C0e,D7i,D8b]
 rw [E9b,I4 hn (Nat.lt_trans h1 h2)]
 simp only [Int.toNat_natCast,Nat.zero_add]
 by_cases h:n < B4s x
 ·rw [if_pos h]
  simp only [B4s,F6] at h
  simp only [C6g,F6]
  cases hE:(x.1.l.getD n default).k == (x.1.l.getD x.2 default).k
  all_goals
   repeat first
    | exact rfl
    | refine A8 rfl ?_
    | refine C8 rfl ?_
    | refine A8 (by simp only [SBs]; omega) ?_
    | refine C8 (by simp only [SBs]; omega) ?_
    | exact congrArg some (Y5 (by first | (simp only [SBs]; omega) | simp)).symm
    | exact congrArg some (Y4 (by first | (simp only [SBs]; omega) | simp)).symm
 ·rw [if_neg h]
  simp only [B4s,F6] at h
  repeat first
   | exact rfl
   | refine A8 rfl ?_
   | refine C8 rfl ?_
   | refine A8 (by simp only [SBs]; omega) ?_
   | refine C8 (by simp only [SBs]; omega) ?_
   | exact congrArg some (Y5 (by first | (simp only [SBs]; omega) | simp)).symm
   | exact congrArg some (Y4 (by first | (simp only [SBs]; omega) | simp)).symm
def F8c:Blk:=hookP sp98b 9 [] (fdT C7q 2 .ret (.exit 2) A9y C0e D7i D8b B4s C6g D0x)
theorem E5t {A:Amb} {q:Prims} (h0:PrimOK prog A pFr) (hq:PrimOK prog A q):PrimOK prog A (q.addb 98 2 F8c) :=
 SEB.findR (id:=2) (ds:=[]) (dec:=A9y) (sp:=sp98b) (sq:=C7q) (m:=9) (eb:=.ret) (ee:=.exit 2) (L:=C0e) (Lb:=D7i) (Le:=D8b) (N:=B4s) (p:=C6g) (Inv:=D0x) (k:=60) F7 F8 h0 hq func98 (show f98.body=some (f98.body.getD .skip) by kernel_rfl) (body:=C4x) (by kernel_rfl)
  rfl rfl rfl rfl (by simp) (by simp) (fun _ _=>⟨⟨.inr rfl,.inr rfl,.inr rfl,.inr rfl,.inr rfl,.inr rfl,.inr rfl,.inr rfl,.inr rfl,trivial⟩,⟨.inr rfl,.inr rfl,.inr rfl,.inr rfl,.inr rfl,.inr rfl,.inr rfl,.inr rfl,.inr rfl,trivial⟩⟩) F6m
theorem C1q (x:Fea) (i:Nat):A9y [Lf.i (i:Int),Lf.i 0,Lf.o (D7 x)]=(x,i):=by simp [A9y,O3]
theorem F9x {x:Fea} {i:Nat} (h:i < x.l.length) (h1:x.l.length < 2 ^ 62):fdC C0e A9y D0x [Lf.i (i:Int),Lf.i 0,Lf.o (D7 x)]=true:=I8 (x:=(x,i)) (C1q x i) ⟨h,h1⟩
theorem G1w (x:Fea) (i:Nat) (h:i < x.l.length):fdE C6g B4s (x,i)=!A1e x i (x.l.getD i default).k:=by
 have key:fdE C6g B4s (x,i)=true ↔ A1e x i (x.l.getD i default).k=false:=by
  rw [F1r]
  unfold A1e C6g B4s
  rw [List.any_eq_false]
  constructor
  ·intro hh y hy
   obtain ⟨j,hj,rfl⟩:=List.getElem_of_mem hy
   rw [List.length_take] at hj
   have:=hh j (by simp only; omega)
   simp only [F6] at this
   rw [List.getElem_take]
   rw [List.getD_eq_getElem?_getD,List.getElem?_eq_getElem (by omega)] at this
   simpa using this
  ·intro hh j hj
   simp only at hj
   have:=hh (x.l[j]'(by omega)) (List.mem_take_iff_getElem.2 ⟨j,by omega,rfl⟩)
   simp only [F6]
   rw [List.getD_eq_getElem?_getD,List.getElem?_eq_getElem (by omega)]
   simpa using this
 cases h1:fdE C6g B4s (x,i) <;> cases h2:A1e x i (x.l.getD i default).k <;> simp_all
def pAl1:Prims:=(pFr.addb 93 0 G3r).addb 98 2 F8c
end Go.Proofs.Tryz
namespace Go.Proofs.Tryz
open Go.Ad
def C4w:Code:=I9 (J7 0 (f98.body.getD .skip))
def sp98a:SP:=⟨dr 1++[.is (.ptr (some (8,0)))]++dr 2++[.int .i64]++dr 46,dd8++[.any]⟩
def C7p:AEx->SP
 | .ret=>⟨dr 2++[.int .i64]++dr 48,dd8++[.any]⟩
 | .exit 0=>⟨dr 51,dd8++[.any]⟩
 | _=>sp98a
theorem E9a (f:Fea) (n:Int):F3 prog (D5 prog pAl1 60) (pAl1.blk 98) C4w (sp98a.rho [.i n,.o (D7 f)]) (sp98a.heap [.i n,.o (D7 f)]) (H9 C7p 9 []) =
  brK (decide (n < (f.l.length:Int))) (brK (decide (0<=n/\n < (f.l.length:Int))) (brK (D8 (okR Frm.fv f.l.length (A7 Frm.fv f.l)) && D8 (okR Dat.fv (f.l.getD n.toNat default).l.length (A7 Dat.fv (f.l.getD n.toNat default).l))) (brK (I5 f.s && szD (ofR Dat.fv (f.l.getD n.toNat default).l.length (A7 Dat.fv (f.l.getD n.toNat default).l))) (brK (X6 { s:=f.s,k:=f.k,a:=f.a,x:=f.x,y:=f.y,z:=f.z,lo:=f.lo,hi:=f.hi,l:=ofR Frm.fv f.l.length (A7 Frm.fv f.l) } { k:=(f.l.getD n.toNat default).k,d:=(f.l.getD n.toNat default).d,t:=(f.l.getD n.toNat default).t,m:=(f.l.getD n.toNat default).m,l:=ofR Dat.fv (f.l.getD n.toNat default).l.length (A7 Dat.fv (f.l.getD n.toNat default).l) } != 0) (some (.ret,[.i (X6 { s:=f.s,k:=f.k,a:=f.a,x:=f.x,y:=f.y,z:=f.z,lo:=f.lo,hi:=f.hi,l:=ofR Frm.fv f.l.length (A7 Frm.fv f.l) } { k:=(f.l.getD n.toNat default).k,d:=(f.l.getD n.toNat default).d,t:=(f.l.getD n.toNat default).t,m:=(f.l.getD n.toNat default).m,l:=ofR Dat.fv (f.l.getD n.toNat default).l.length (A7 Dat.fv (f.l.getD n.toNat default).l) }),.o (D7 f)])) (brK (fdC C0e A9y D0x [Lf.i n,Lf.i 0,Lf.o (D7 f)]) (brK (fdE C6g B4s (A9y [Lf.i n,Lf.i 0,Lf.o (D7 f)])) (some (.normal,[.i (W (n+1)),.o (D7 f)])) (some (.ret,[.i (7),.o (D7 f)]))) none)) none) none) none) (some (.exit 0,[.o (D7 f)])):=by kernel_rfl
def B4p (x:Fea) (n:Nat):List Lf:=[.i n,.o (D7 x)]
def C7z:List Lf->Nat->List Lf
 | [_,.o o],n=>[.i (A0b (A2g o) n),.o o]
 | _,_=>[]
def D8a:List Lf->List Lf
 | [_,o]=>[o]
 | _=>[]
def B6e (x:Fea):Nat:=x.l.length
def B2a (x:Fea) (n:Nat):Bool:=decide (A0b x n=0)
def D0w (x:Fea):Prop:=x.l.length < 2 ^ 62/\szF x=true
def A6e:List Lf->Fea
 | [_,.o o]=>A2g o
 | _=>default
theorem F6l (x:Fea) (hx:D0w x) (n:Nat) (hn:n<=B6e x):F3 prog (D5 prog pAl1 60) (pAl1.blk 98) C4w (sp98a.rho (B4p x n)) (sp98a.heap (B4p x n)) (H9 C7p 9 [])=some (if n < B6e x then (bif B2a x n then (.normal,B4p x (n+1)) else (.ret,C7z (B4p x 0) n)) else (.exit 0,D8a (B4p x 0))):=by
 obtain ⟨h1,h2⟩:=hx
 simp only [B4p,D8a]
 rw [E9a,I4 hn h1]
 simp only [Int.toNat_natCast,B8a,E4j,E9w,L8,Bool.and_self,C1q]
 by_cases h:n < B6e x
 ·rw [if_pos h]
  simp only [B6e] at h
  have hz:(I5 x.s && szD (x.l.getD n default).l)=true:=by
   have:=h2
   rw [Bool.and_eq_true]
   refine ⟨?_,E9x h2 h⟩
   unfold szF at this
   rw [Bool.and_eq_true] at this
   exact this.1
  refine A8 (dT (by omega)) ?_
  refine A8 (dT (by omega)) ?_
  refine A8 rfl ?_
  refine A8 hz ?_
  rw [G1w x n h,F9x h h1]
  by_cases he:X6 x (x.l.getD n default)=0
  ·refine C8 (by simpa using he) ?_
   cases hs:A1e x n (x.l.getD n default).k with
   | true =>
    have hg:A0b x n=7:=by unfold A0b; rw [if_neg (by simpa using he),if_pos hs]
    have hp:B2a x n=false:=by unfold B2a; rw [hg]; rfl
    rw [hp,cond_false]
    simp only [C7z,B4p,O3,hg]
    rfl
   | false =>
    have hg:A0b x n=0:=by unfold A0b; rw [if_neg (by simpa using he),if_neg (by simpa using hs)]
    have hp:B2a x n=true:=by unfold B2a; rw [hg]; rfl
    rw [hp,cond_true]
    rfl
  ·refine A8 (by simpa using he) ?_
   have hg:A0b x n=X6 x (x.l.getD n default):=by unfold A0b; rw [if_pos he]
   have hp:B2a x n=false:=by unfold B2a; rw [hg]; simpa using he
   rw [hp,cond_false]
   simp only [C7z,B4p,O3,hg]
 ·rw [if_neg h]
  simp only [B6e] at h
  refine C8 (dF (by omega)) ?_
  rfl
def F8b:Blk:=hookP sp98a 9 [] (fdT C7p 0 .ret (.exit 0) A6e B4p C7z D8a B6e B2a D0w)
theorem E5s {A:Amb} {q:Prims} (h0:PrimOK prog A pAl1) (hq:PrimOK prog A q):PrimOK prog A (q.addb 98 0 F8b) :=
 SEB.findR (id:=0) (ds:=[]) (dec:=A6e) (sp:=sp98a) (sq:=C7p) (m:=9) (eb:=.ret) (ee:=.exit 0) (L:=B4p) (Lb:=C7z) (Le:=D8a) (N:=B6e) (p:=B2a) (Inv:=D0w) (k:=60) F7 F8 h0 hq func98 (show f98.body=some (f98.body.getD .skip) by kernel_rfl) (body:=C4w) (by kernel_rfl)
  rfl rfl rfl rfl (by simp) (by simp) (fun _ _=>⟨⟨.inr rfl,.inr rfl,.inr rfl,.inr rfl,.inr rfl,.inr rfl,.inr rfl,.inr rfl,.inr rfl,trivial⟩,⟨.inr rfl,.inr rfl,.inr rfl,.inr rfl,.inr rfl,.inr rfl,.inr rfl,.inr rfl,.inr rfl,trivial⟩⟩) F6l
end Go.Proofs.Tryz
namespace Go.Proofs.Tryz
open Go.Ad
theorem C9l (x:Fea) (a b c d e f g h i j k l m:Lf):A6r [a,b,c,d,Lf.o (D7 x),e,f,g,h,i,j,k,l,m]=x:=by simp [A6r,O3]
theorem F6t {x:Fea} (h1:x.l.length < 2 ^ 62) (h2:szF x=true):fdC L93 A6r E6e [Lf.n x.l.length,Lf.fr (A7 Frm.fv x.l),Lf.i x.l.length,Lf.i 0,Lf.o (D7 x),Lf.b false,Lf.b false,Lf.b false,Lf.b false,Lf.b false,Lf.b false,Lf.b false,Lf.b false,Lf.b false]=true:=I8 (L:=L93) (x:=x) (by simp [A6r,L93,O3]) ⟨h1,h2⟩
theorem B2w (x:Fea):A6e [Lf.i 0,Lf.o (D7 x)]=x:=by simp [A6e,O3]
theorem E4c {x:Fea} (h1:x.l.length < 2 ^ 62) (h2:szF x=true):fdC B4p A6e D0w [Lf.i 0,Lf.o (D7 x)]=true:=I8 (x:=x) (B2w x) ⟨h1,h2⟩
def E7e:Prims:=pAl1.addb 98 0 F8b
def X0 (x:Fea):Int:=if J9 x ≠ 0 then J9 x else if x.l.length > 8 then 5 else U1 (A0b x) x.l.length
theorem F6x (x:Fea):fdE p93 N93 x=decide (U1 (A0b x) x.l.length=0):=Z5 (A0b x) fun _ _=>rfl
theorem E4f (x:Fea):fdE B2a B6e x=decide (U1 (A0b x) x.l.length=0):=Z5 (A0b x) fun _ _=>rfl
theorem G1t {x:Fea} (h:U1 (A0b x) x.l.length ≠ 0):A0b x (G5 (p93 x) (N93 x) 0)=U1 (A0b x) x.l.length:=(X9 (p:=p93 x) (fun _ _=>rfl) h).2
theorem G1u {x:Fea} (h:U1 (A0b x) x.l.length ≠ 0):A0b x (G5 (B2a x) (B6e x) 0)=U1 (A0b x) x.l.length:=(X9 (p:=B2a x) (fun _ _=>rfl) h).2
theorem F3x {A:Amb} (hT:Tab A) (hG:gN prog<=A.G):PrimOK prog A E7e:=by
 have h0:=G0s hT hG
 have h1:PrimOK prog A pAl1:=E5t h0 (F3a h0 h0)
 exact E5s h1 h1
end Go.Proofs.Tryz
namespace Go.Proofs.Tryz
open Go.Ad
theorem G6g (x:Fea):(D5 prog E7e 60).call 93 [.agg x.av] (Bg 8) F9 =
  brK (D8 (okR Frm.fv x.l.length (A7 Frm.fv x.l))) (brK (I5 x.s) (brK (J9 { s:=x.s,k:=x.k,a:=x.a,x:=x.x,y:=x.y,z:=x.z,lo:=x.lo,hi:=x.hi,l:=ofR Frm.fv x.l.length (A7 Frm.fv x.l) } != 0) (some (.sint IntKind.i64 (J9 { s:=x.s,k:=x.k,a:=x.a,x:=x.x,y:=x.y,z:=x.z,lo:=x.lo,hi:=x.hi,l:=ofR Frm.fv x.l.length (A7 Frm.fv x.l) }))) (brK (decide ((x.l.length:Int) > 8)) (some (.int .i64 5)) (brK (fdC L93 A6r E6e [Lf.n x.l.length,Lf.fr (A7 Frm.fv x.l),Lf.i (x.l.length:Int),Lf.i 0,Lf.o (D7 x),Lf.b false,Lf.b false,Lf.b false,Lf.b false,Lf.b false,Lf.b false,Lf.b false,Lf.b false,Lf.b false]) (brK (fdE p93 N93 (A6r [Lf.n x.l.length,Lf.fr (A7 Frm.fv x.l),Lf.i (x.l.length:Int),Lf.i 0,Lf.o (D7 x),Lf.b false,Lf.b false,Lf.b false,Lf.b false,Lf.b false,Lf.b false,Lf.b false,Lf.b false,Lf.b false])) (some (.int .i64 0)) (some (.sint IntKind.i64 (A0b (A2g (D7 x)) (G5 (p93 (A6r [Lf.n x.l.length,Lf.fr (A7 Frm.fv x.l),Lf.i (x.l.length:Int),Lf.i 0,Lf.o (D7 x),Lf.b false,Lf.b false,Lf.b false,Lf.b false,Lf.b false,Lf.b false,Lf.b false,Lf.b false,Lf.b false])) (N93 (A6r [Lf.n x.l.length,Lf.fr (A7 Frm.fv x.l),Lf.i (x.l.length:Int),Lf.i 0,Lf.o (D7 x),Lf.b false,Lf.b false,Lf.b false,Lf.b false,Lf.b false,Lf.b false,Lf.b false,Lf.b false,Lf.b false])) 0))))) none))) none) none:=by kernel_rfl
theorem G8a (x:Fea) (hz:I5 x.s=true) (hs:szF x=true):∃ v,(D5 prog E7e 60).call 93 [.agg x.av] (Bg 8) F9=some v/\R3 (X0 x) v:=by
 rw [G6g]
 simp only [L8,B8a,C9l,B2w,F6x,E4f,O3]
 by_cases c1:J9 x ≠ 0
 rotate_left
 by_cases c2:x.l.length > 8
 rotate_left
 by_cases c3:U1 (A0b x) x.l.length ≠ 0
 rotate_left
 all_goals
  apply exV
  focus
   repeat first
    | exact rfl
    | refine A8 rfl ?_
    | refine C8 rfl ?_
    | refine A8 (by simp only [SBs]; omega) ?_
    | refine C8 (by simp only [SBs]; omega) ?_
    | refine A8 hz ?_
    | refine A8 (F6t (by omega) hs) ?_
    | refine A8 (E4c (by omega) hs) ?_
  focus
   first
    | apply viI
    | apply viS
   dsimp only [X0]
   repeat first
    | exact rfl
    | omega
    | refine I7 (by omega) ?_
    | refine G7 (by omega) ?_
    | exact (G1t c3).symm
theorem G6l (x:Fea):(D5 prog E7e 60).call 98 [.agg x.av] (Bg 8) F9 =
  brK (D8 (okR Frm.fv x.l.length (A7 Frm.fv x.l))) (brK (I5 x.s) (brK (J9 { s:=x.s,k:=x.k,a:=x.a,x:=x.x,y:=x.y,z:=x.z,lo:=x.lo,hi:=x.hi,l:=ofR Frm.fv x.l.length (A7 Frm.fv x.l) } != 0) (some (.sint IntKind.i64 (J9 { s:=x.s,k:=x.k,a:=x.a,x:=x.x,y:=x.y,z:=x.z,lo:=x.lo,hi:=x.hi,l:=ofR Frm.fv x.l.length (A7 Frm.fv x.l) }))) (brK (decide ((x.l.length:Int) > 8)) (some (.int .i64 5)) (brK (fdC B4p A6e D0w [Lf.i 0,Lf.o (D7 x)]) (brK (fdE B2a B6e (A6e [Lf.i 0,Lf.o (D7 x)])) (some (.int .i64 0)) (some (.sint IntKind.i64 (A0b (A2g (D7 x)) (G5 (B2a (A6e [Lf.i 0,Lf.o (D7 x)])) (B6e (A6e [Lf.i 0,Lf.o (D7 x)])) 0))))) none))) none) none:=by kernel_rfl
theorem G8d (x:Fea) (hz:I5 x.s=true) (hs:szF x=true):∃ v,(D5 prog E7e 60).call 98 [.agg x.av] (Bg 8) F9=some v/\R3 (X0 x) v:=by
 rw [G6l]
 simp only [L8,B8a,C9l,B2w,F6x,E4f,O3]
 by_cases c1:J9 x ≠ 0
 rotate_left
 by_cases c2:x.l.length > 8
 rotate_left
 by_cases c3:U1 (A0b x) x.l.length ≠ 0
 rotate_left
 all_goals
  apply exV
  focus
   repeat first
    | exact rfl
    | refine A8 rfl ?_
    | refine C8 rfl ?_
    | refine A8 (by simp only [SBs]; omega) ?_
    | refine C8 (by simp only [SBs]; omega) ?_
    | refine A8 hz ?_
    | refine A8 (F6t (by omega) hs) ?_
    | refine A8 (E4c (by omega) hs) ?_
  focus
   first
    | apply viI
    | apply viS
   dsimp only [X0]
   repeat first
    | exact rfl
    | omega
    | refine I7 (by omega) ?_
    | refine G7 (by omega) ?_
    | exact (G1u c3).symm
theorem E9y {x:Fea} (h:szF x=true):I5 x.s=true:=by
 unfold szF at h
 rw [Bool.and_eq_true] at h
 exact h.1
def VAl (x:Fea):Tr AV:=.br (szF x) (.leaf (.sint .i64 (X0 x))) .fail
def pAl:Prims:=(pFe.addt 93 (R6 A1b VAl)).addt 98 (R6 A1b VAl)
theorem E7f {A:Amb} (hT:Tab A) (hG:gN prog<=A.G):PrimOK prog A pAl:=by
 have h0:=F3x hT hG
 refine J5 hG h0 (J5 hG h0 (D6a hT hG) A1b VAl func93 (by kernel_rfl) fun x v hv=>?_) A1b VAl func98 (by kernel_rfl) fun x v hv=>?_
 ·obtain ⟨hz,hv⟩:=Tr.br1 hv
  cases hv
  obtain ⟨v',h1,h2⟩:=G8a x (E9y hz) hz
  exact ⟨v',h1,H6 h2,K4 h2⟩
 ·obtain ⟨hz,hv⟩:=Tr.br1 hv
  cases hv
  obtain ⟨v',h1,h2⟩:=G8d x (E9y hz) hz
  exact ⟨v',h1,H6 h2,K4 h2⟩
end Go.Proofs.Tryz
namespace Go.Proofs.Tryz
open Go.Ad
def A6g (d:Drw) (s:List UInt8) (n:Nat):Bool:=(D9 d n).s == s
def E5 (d:Drw) (s:List UInt8):Int:=D5c (A6g d s) d.l.length
def C4c:Code:=I9 (J7 0 (f116.body.getD .skip))
def sp116:SP:=⟨[.flist 9]++[.is (.func (.func 117) [] [.ptr (some (9,0))])]++dr 5++[.int .i64]++[.int .i64]++dr 10,dd8++[.any,.cells [.str] 0 true 9]⟩
def C6v:AEx->SP
 | .ret=>⟨dr 4++[.int .i64]++dr 14,dd8++[.any,.cells [.drop] 0 true 9]⟩
 | .exit 0=>⟨dr 19,dd8++[.any,.cells [.drop] 0 true 9]⟩
 | _=>sp116
theorem E8g (d:Drw) (s:List UInt8) (n:Int):F3 prog (D5 prog pAl 60) (pAl.blk 116) C4c (sp116.rho [.n d.l.length,.fr (A7 Fea.fv d.l),.i d.l.length,.i n,.o (A9 d),.s s]) (sp116.heap [.n d.l.length,.fr (A7 Fea.fv d.l),.i d.l.length,.i n,.o (A9 d),.s s]) (H9 C6v 10 [9]) =
  brK (decide (n < (d.l.length:Int))) (brK (decide (0<=n/\n < (d.l.length:Int))) (brK ((d.l.getD n.toNat default).s == s) (some (.ret,[.i (n),.o (A9 d)])) (some (.normal,[.n (d.l.length),.fr (A7 Fea.fv d.l),.i ((d.l.length:Int)),.i (W (n+1)),.o (A9 d),.s (s)]))) none) (some (.exit 0,[.o (A9 d)])):=by kernel_rfl
def B5n (x:Drw × List UInt8) (n:Nat):List Lf:=[.n x.1.l.length,.fr (A7 Fea.fv x.1.l),.i x.1.l.length,.i n,.o (A9 x.1),.s x.2]
def D6x:List Lf->Nat->List Lf
 | [_,_,_,_,o,_],n=>[.i n,o]
 | _,_=>[]
def D7j:List Lf->List Lf
 | [_,_,_,_,o,_]=>[o]
 | _=>[]
def C0f (x:Drw × List UInt8):Nat:=x.1.l.length
def D5x (x:Drw × List UInt8) (n:Nat):Bool:=!A6g x.1 x.2 n
def C2b (x:Drw × List UInt8):Prop:=x.1.l.length < 2 ^ 62
def A5u:List Lf->Drw × List UInt8
 | [_,_,_,_,.o o,.s s]=>(I1 o,s)
 | _=>default
theorem F5r (x:Drw × List UInt8) (hx:C2b x) (n:Nat) (hn:n<=C0f x):F3 prog (D5 prog pAl 60) (pAl.blk 116) C4c (sp116.rho (B5n x n)) (sp116.heap (B5n x n)) (H9 C6v 10 [9])=some (if n < C0f x then (bif D5x x n then (.normal,B5n x (n+1)) else (.ret,D6x (B5n x 0) n)) else (.exit 0,D7j (B5n x 0))):=by
 have h1:=hx
 simp only [C2b] at h1
 simp only [B5n,D6x,D7j]
 rw [E8g,I4 hn h1]
 simp only [Int.toNat_natCast,Nat.zero_add]
 by_cases h:n < C0f x
 ·rw [if_pos h]
  simp only [C0f,A6g,D9] at h
  simp only [D5x,A6g,D9]
  cases hE:(x.1.l.getD n default).s == x.2
  all_goals
   repeat first
    | exact rfl
    | refine A8 rfl ?_
    | refine C8 rfl ?_
    | refine A8 (by simp only [SBs]; omega) ?_
    | refine C8 (by simp only [SBs]; omega) ?_
    | exact congrArg some (Y5 (by first | (simp only [SBs]; omega) | simp)).symm
    | exact congrArg some (Y4 (by first | (simp only [SBs]; omega) | simp)).symm
 ·rw [if_neg h]
  simp only [C0f,A6g,D9] at h
  repeat first
   | exact rfl
   | refine A8 rfl ?_
   | refine C8 rfl ?_
   | refine A8 (by simp only [SBs]; omega) ?_
   | refine C8 (by simp only [SBs]; omega) ?_
   | exact congrArg some (Y5 (by first | (simp only [SBs]; omega) | simp)).symm
   | exact congrArg some (Y4 (by first | (simp only [SBs]; omega) | simp)).symm
def F7f:Blk:=hookP sp116 10 [9] (fdT C6v 0 .ret (.exit 0) A5u B5n D6x D7j C0f D5x C2b)
theorem E4w {A:Amb} {q:Prims} (h0:PrimOK prog A pAl) (hq:PrimOK prog A q):PrimOK prog A (q.addb 116 0 F7f) :=
 SEB.findR (id:=0) (ds:=[9]) (dec:=A5u) (sp:=sp116) (sq:=C6v) (m:=10) (eb:=.ret) (ee:=.exit 0) (L:=B5n) (Lb:=D6x) (Le:=D7j) (N:=C0f) (p:=D5x) (Inv:=C2b) (k:=60) F7 F8 h0 hq func116 (show f116.body=some (f116.body.getD .skip) by kernel_rfl) (body:=C4c) (by kernel_rfl)
  rfl rfl rfl rfl (by simp) (by simp) (fun _ _=>⟨⟨.inr rfl,.inr rfl,.inr rfl,.inr rfl,.inr rfl,.inr rfl,.inr rfl,.inr rfl,.inr rfl,.inl rfl,trivial⟩,⟨.inr rfl,.inr rfl,.inr rfl,.inr rfl,.inr rfl,.inr rfl,.inr rfl,.inr rfl,.inr rfl,.inl rfl,trivial⟩⟩) F5r
def D4b:Code:=I9 (J7 0 (f74.body.getD .skip))
def sp74:SP:=⟨dr 1++[.str]++[.is (.ptr (some (8,0)))]++dr 2++[.int .i64]++dr 16,dd8++[.any]⟩
def E0e:AEx->SP
 | .ret=>⟨dr 4++[.int .i64]++dr 17,dd8++[.any]⟩
 | .exit 0=>⟨dr 22,dd8++[.any]⟩
 | _=>sp74
theorem F5e (d:Drw) (s:List UInt8) (n:Int):F3 prog (D5 prog pAl 60) (pAl.blk 74) D4b (sp74.rho [.s s,.i n,.o (A9 d)]) (sp74.heap [.s s,.i n,.o (A9 d)]) (H9 E0e 9 []) =
  brK (decide (n < (d.l.length:Int))) (brK (decide (0<=n/\n < (d.l.length:Int))) (brK ((d.l.getD n.toNat default).s == s) (some (.ret,[.i (n),.o (A9 d)])) (some (.normal,[.s (s),.i (W (n+1)),.o (A9 d)]))) none) (some (.exit 0,[.o (A9 d)])):=by kernel_rfl
def L74 (x:Drw × List UInt8) (n:Nat):List Lf:=[.s x.2,.i n,.o (A9 x.1)]
def F0o:List Lf->Nat->List Lf
 | [_,_,o],n=>[.i n,o]
 | _,_=>[]
def F0y:List Lf->List Lf
 | [_,_,o]=>[o]
 | _=>[]
def N74 (x:Drw × List UInt8):Nat:=x.1.l.length
def p74 (x:Drw × List UInt8) (n:Nat):Bool:=!A6g x.1 x.2 n
def E1q (x:Drw × List UInt8):Prop:=x.1.l.length < 2 ^ 62
def B1q:List Lf->Drw × List UInt8
 | [.s s,_,.o o]=>(I1 o,s)
 | _=>default
theorem G2k (x:Drw × List UInt8) (hx:E1q x) (n:Nat) (hn:n<=N74 x):F3 prog (D5 prog pAl 60) (pAl.blk 74) D4b (sp74.rho (L74 x n)) (sp74.heap (L74 x n)) (H9 E0e 9 [])=some (if n < N74 x then (bif p74 x n then (.normal,L74 x (n+1)) else (.ret,F0o (L74 x 0) n)) else (.exit 0,F0y (L74 x 0))):=by
 have h1:=hx
 simp only [E1q] at h1
 simp only [L74,F0o,F0y]
 rw [F5e,I4 hn h1]
 simp only [Int.toNat_natCast,Nat.zero_add]
 by_cases h:n < N74 x
 ·rw [if_pos h]
  simp only [N74,A6g,D9] at h
  simp only [p74,A6g,D9]
  cases hE:(x.1.l.getD n default).s == x.2
  all_goals
   repeat first
    | exact rfl
    | refine A8 rfl ?_
    | refine C8 rfl ?_
    | refine A8 (by simp only [SBs]; omega) ?_
    | refine C8 (by simp only [SBs]; omega) ?_
    | exact congrArg some (Y5 (by first | (simp only [SBs]; omega) | simp)).symm
    | exact congrArg some (Y4 (by first | (simp only [SBs]; omega) | simp)).symm
 ·rw [if_neg h]
  simp only [N74,A6g,D9] at h
  repeat first
   | exact rfl
   | refine A8 rfl ?_
   | refine C8 rfl ?_
   | refine A8 (by simp only [SBs]; omega) ?_
   | refine C8 (by simp only [SBs]; omega) ?_
   | exact congrArg some (Y5 (by first | (simp only [SBs]; omega) | simp)).symm
   | exact congrArg some (Y4 (by first | (simp only [SBs]; omega) | simp)).symm
def G3p:Blk:=hookP sp74 9 [] (fdT E0e 0 .ret (.exit 0) B1q L74 F0o F0y N74 p74 E1q)
theorem F2y {A:Amb} {q:Prims} (h0:PrimOK prog A pAl) (hq:PrimOK prog A q):PrimOK prog A (q.addb 74 0 G3p) :=
 SEB.findR (id:=0) (ds:=[]) (dec:=B1q) (sp:=sp74) (sq:=E0e) (m:=9) (eb:=.ret) (ee:=.exit 0) (L:=L74) (Lb:=F0o) (Le:=F0y) (N:=N74) (p:=p74) (Inv:=E1q) (k:=60) F7 F8 h0 hq func74 (show f74.body=some (f74.body.getD .skip) by kernel_rfl) (body:=D4b) (by kernel_rfl)
  rfl rfl rfl rfl (by simp) (by simp) (fun _ _=>⟨⟨.inr rfl,.inr rfl,.inr rfl,.inr rfl,.inr rfl,.inr rfl,.inr rfl,.inr rfl,.inr rfl,trivial⟩,⟨.inr rfl,.inr rfl,.inr rfl,.inr rfl,.inr rfl,.inr rfl,.inr rfl,.inr rfl,.inr rfl,trivial⟩⟩) G2k
theorem B2v (d:Drw) (s:List UInt8) (a b c e:Lf):A5u [a,b,c,e,Lf.o (A9 d),Lf.s s]=(d,s):=by simp [A5u,E8]
theorem C5g {d:Drw} {s:List UInt8} (h:d.l.length < 2 ^ 62):fdC B5n A5u C2b [Lf.n d.l.length,Lf.fr (A7 Fea.fv d.l),Lf.i d.l.length,Lf.i 0,Lf.o (A9 d),Lf.s s]=true:=I8 (L:=B5n) (x:=(d,s)) (B2v d s _ _ _ _) h
theorem B7x (d:Drw) (s:List UInt8) (a:Lf):B1q [Lf.s s,a,Lf.o (A9 d)]=(d,s):=by simp [B1q,E8]
theorem D8o {d:Drw} {s:List UInt8} (h:d.l.length < 2 ^ 62):fdC L74 B1q E1q [Lf.s s,Lf.i 0,Lf.o (A9 d)]=true:=I8 (L:=L74) (x:=(d,s)) (B7x d s _) h
theorem E4d (d:Drw) (s:List UInt8):fdE D5x C0f (d,s)=decide (A2e (A6g d s) d.l.length=d.l.length):=rfl
theorem F6w (d:Drw) (s:List UInt8):fdE p74 N74 (d,s)=decide (A2e (A6g d s) d.l.length=d.l.length):=rfl
def E7l:Prims:=(pAl.addb 116 0 F7f).addb 74 0 G3p
theorem F4g {A:Amb} (hT:Tab A) (hG:gN prog<=A.G):PrimOK prog A E7l:=by
 have h0:=E7f hT hG
 exact F2y h0 (E4w h0 h0)
def B4f:Par (Drw × List UInt8) where
 get:=fun | [.agg l,a]=>(match C9o l,sstr? a with | some (c,x),some s=>some (c,(x,s)) | _,_=>none) | _=>none
 av:=fun x=>[.agg x.1.av,.sstr x.2]
 ok:=by
  intro l x h ι vs hv
  split at h
  ·split at h
   ·rename_i h1 h2
    simp only [sI,pI] at h
    obtain ⟨rfl,rfl⟩:=h
    simp only [VRL,VR] at hv ⊢
    obtain ⟨y,r,e,⟨a,q1,q2⟩,y2,r2,e2,q4,q3⟩:=hv
    exact ⟨y,r,e,⟨a,q1,C5f h1 q2⟩,y2,r2,e2,N8 h2 q4,q3⟩
   ·cases h
  ·cases h
 free:=fun _=>rfl
end Go.Proofs.Tryz
namespace Go.Proofs.Tryz
open Go.Ad
theorem G5z (d:Drw) (s:List UInt8):(D5 prog E7l 60).call 62 [.agg d.av,.sstr s] (Bg 8) F9 =
  brK (fdC B5n A5u C2b [Lf.n d.l.length,Lf.fr (A7 Fea.fv d.l),Lf.i (d.l.length:Int),Lf.i 0,Lf.o (A9 d),Lf.s s]) (brK (fdE D5x C0f (A5u [Lf.n d.l.length,Lf.fr (A7 Fea.fv d.l),Lf.i (d.l.length:Int),Lf.i 0,Lf.o (A9 d),Lf.s s])) (some (.int .i64 (-1))) (some (.sint IntKind.i64 (((G5 (D5x (A5u [Lf.n d.l.length,Lf.fr (A7 Fea.fv d.l),Lf.i (d.l.length:Int),Lf.i 0,Lf.o (A9 d),Lf.s s])) (C0f (A5u [Lf.n d.l.length,Lf.fr (A7 Fea.fv d.l),Lf.i (d.l.length:Int),Lf.i 0,Lf.o (A9 d),Lf.s s])) 0):Int))))) none:=by kernel_rfl
theorem G7w (d:Drw) (s:List UInt8) (hl:d.l.length < 2 ^ 62):∃ v,(D5 prog E7l 60).call 62 [.agg d.av,.sstr s] (Bg 8) F9=some v/\R3 (E5 d s) v:=by
 rw [G5z]
 simp only [B2v,B7x,E4d,F6w]
 by_cases c1:A2e (A6g d s) d.l.length=d.l.length
 ·apply exV
  focus
   repeat first
    | exact rfl
    | refine A8 rfl ?_
    | refine C8 rfl ?_
    | refine A8 (by simp only [SBs]; omega) ?_
    | refine C8 (by simp only [SBs]; omega) ?_
    | refine A8 (C5g hl) ?_
    | refine A8 (D8o hl) ?_
  focus
   first
    | apply viI
    | apply viS
   dsimp only [E5,D5c]
   repeat first
    | exact rfl
    | omega
    | refine I7 (by omega) ?_
    | refine G7 (by omega) ?_
 apply exV
 focus
  repeat first
   | exact rfl
   | refine A8 rfl ?_
   | refine C8 rfl ?_
   | refine A8 (by simp only [SBs]; omega) ?_
   | refine C8 (by simp only [SBs]; omega) ?_
   | refine A8 (C5g hl) ?_
   | refine A8 (D8o hl) ?_
 focus
  first
   | apply viI
   | apply viS
  dsimp only [E5,D5c]
  repeat first
   | exact rfl
   | omega
   | refine I7 (by omega) ?_
   | refine G7 (by omega) ?_
theorem G6a (d:Drw) (s:List UInt8):(D5 prog E7l 60).call 74 [.agg d.av,.sstr s] (Bg 8) F9 =
  brK (fdC L74 B1q E1q [Lf.s s,Lf.i 0,Lf.o (A9 d)]) (brK (fdE p74 N74 (B1q [Lf.s s,Lf.i 0,Lf.o (A9 d)])) (some (.int .i64 (-1))) (some (.sint IntKind.i64 (((G5 (p74 (B1q [Lf.s s,Lf.i 0,Lf.o (A9 d)])) (N74 (B1q [Lf.s s,Lf.i 0,Lf.o (A9 d)])) 0):Int))))) none:=by kernel_rfl
theorem G7x (d:Drw) (s:List UInt8) (hl:d.l.length < 2 ^ 62):∃ v,(D5 prog E7l 60).call 74 [.agg d.av,.sstr s] (Bg 8) F9=some v/\R3 (E5 d s) v:=by
 rw [G6a]
 simp only [B2v,B7x,E4d,F6w]
 by_cases c1:A2e (A6g d s) d.l.length=d.l.length
 ·apply exV
  focus
   repeat first
    | exact rfl
    | refine A8 rfl ?_
    | refine C8 rfl ?_
    | refine A8 (by simp only [SBs]; omega) ?_
    | refine C8 (by simp only [SBs]; omega) ?_
    | refine A8 (C5g hl) ?_
    | refine A8 (D8o hl) ?_
  focus
   first
    | apply viI
    | apply viS
   dsimp only [E5,D5c]
   repeat first
    | exact rfl
    | omega
    | refine I7 (by omega) ?_
    | refine G7 (by omega) ?_
 apply exV
 focus
  repeat first
   | exact rfl
   | refine A8 rfl ?_
   | refine C8 rfl ?_
   | refine A8 (by simp only [SBs]; omega) ?_
   | refine C8 (by simp only [SBs]; omega) ?_
   | refine A8 (C5g hl) ?_
   | refine A8 (D8o hl) ?_
 focus
  first
   | apply viI
   | apply viS
  dsimp only [E5,D5c]
  repeat first
   | exact rfl
   | omega
   | refine I7 (by omega) ?_
   | refine G7 (by omega) ?_
def VIx (x:Drw × List UInt8):Tr AV:=.br (decide (x.1.l.length < 2 ^ 62)) (.leaf (.sint .i64 (E5 x.1 x.2))) .fail
def pIx:Prims:=(pAl.addt 62 (R6 B4f VIx)).addt 74 (R6 B4f VIx)
theorem E7m {A:Amb} (hT:Tab A) (hG:gN prog<=A.G):PrimOK prog A pIx:=by
 have h0:=F4g hT hG
 refine J5 hG h0 (J5 hG h0 (E7f hT hG) B4f VIx func62 (by kernel_rfl) fun x v hv=>?_) B4f VIx func74 (by kernel_rfl) fun x v hv=>?_
 ·obtain ⟨hz,hv⟩:=Tr.br1 hv
  cases hv
  obtain ⟨v',h1,h2⟩:=G7w x.1 x.2 (of_decide_eq_true hz)
  exact ⟨v',h1,H6 h2,K4 h2⟩
 ·obtain ⟨hz,hv⟩:=Tr.br1 hv
  cases hv
  obtain ⟨v',h1,h2⟩:=G7x x.1 x.2 (of_decide_eq_true hz)
  exact ⟨v',h1,H6 h2,K4 h2⟩
end Go.Proofs.Tryz
