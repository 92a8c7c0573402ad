/- The lexer's program: the tokens of a text: the loops of both scans. -/
import Derived.Test.YtfjgehlpjppggaaGreatDoorBase
namespace Go.Proofs.Tryz
open Go.Ad
abbrev Tok:=Int × List UInt8 × Int
def tok0:Tok:=(0,[],0)
def rowT (x:Tok):List AV:=[.sint .i64 x.1,.sstr x.2.1,.sint .i64 x.2.2]
abbrev rowsT (L:List Tok):Nat→List AV:=rowsL rowT tok0 L
theorem rowT_tag (y:Tok):tagL (rowT y)=some [.n .i64,.s,.n .i64]:=rfl
def spSc (k:Nat):SP:=⟨[.str,.drop,.drop,.drop,.drop,.list 8,.int .i64]++dr k,dd8++[.vec 3 52]⟩
def spSe (k:Nat):SP:=⟨[.str,.drop,.drop,.drop,.drop,.list 8,.drop]++dr k,dd8++[.vec 3 52]⟩
def spSr (k:Nat):SP:=⟨[.drop,.drop,.is (.slice none 0 0),.int .i64,.int .i64,.drop,.drop]++dr k,dd8++[.vec 3 52]⟩
def lfRsn (a e:Int):List Lf:=[.i a,.i e,.n 0,.r (fun _=>[])]
def spSx (k:Nat):AEx→SP
 | .ret=>spSr k
 | .normal=>spSc k
 | .exit _=>spSe k
noncomputable def code18:Code:=f18.body.getD .skip
noncomputable def code19:Code:=f19.body.getD .skip
noncomputable def body18:Code:=unLoop (findB 0 code18)
noncomputable def body19:Code:=unLoop (findB 0 code19)
def lfScn (s:List UInt8) (a:Int) (n:Nat) (r:Nat→List AV):List Lf:=[.s s,.n n,.i a,.n n,.r r]
def treeS (blank:Bool) (s:List UInt8) (a:Int) (n:Nat) (r:Nat→Tok):Option (AEx × List Lf) :=
 brK (decide (a < (s.length:Int))) (brK (decide (0≤a∧a < (s.length:Int))) (brK blank (some (.normal,lfScn s (W (a+1)) n (fun i=>rowT (r i))))
  (brK (true && decide (0≤a∧a≤(s.length:Int))) (brK (szOK (List.drop a.toNat (List.take s.length s)) && !(List.drop a.toNat (List.take s.length s)).isEmpty)
   (brK ((tokK (List.drop a.toNat (List.take s.length s))).2.2 != 0) (some (.ret,lfRsn a (tokK (List.drop a.toNat (List.take s.length s))).2.2))
    (brK (decide (0≤W (a+((tokK (List.drop a.toNat (List.take s.length s))).2.1:Int))∧W (a+((tokK (List.drop a.toNat (List.take s.length s))).2.1:Int))≤(s.length:Int)) &&
       decide (0≤a∧a≤((W (a+((tokK (List.drop a.toNat (List.take s.length s))).2.1:Int))).toNat:Int)))
     (brK (decide (n+1 < 2147483648∧n=n)) (some (.normal,lfScn s (W (a+((tokK (List.drop a.toNat (List.take s.length s))).2.1:Int))) (n+1)
      (addRow n (fun i=>rowT (r i)) [.sint .i64 (tokK (List.drop a.toNat (List.take s.length s))).1,.sstr (List.drop a.toNat (List.take (W (a+((tokK (List.drop a.toNat (List.take s.length s))).2.1:Int))).toNat s)),.sint .i64 a]))) none) none)) none) none)) none)
  (some (.exit 0,[.s s,.n n,.n n,.r (fun i=>rowT (r i))]))
theorem round18 (s:List UInt8) (a:Int) (n:Nat) (r:Nat→Tok):execK prog (runK prog pT 60) noBps body18 ((spSc 50).rho (lfScn s a n (fun i=>rowT (r i)))) ((spSc 50).heap (lfScn s a n (fun i=>rowT (r i)))) (nrmP (spSx 50) 8 [8])=treeS (clsI (bI s a) == 5) s a n r:=by kernel_rfl
theorem round19 (s:List UInt8) (a:Int) (n:Nat) (r:Nat→Tok):execK prog (runK prog pT 60) noBps body19 ((spSc 49).rho (lfScn s a n (fun i=>rowT (r i)))) ((spSc 49).heap (lfScn s a n (fun i=>rowT (r i)))) (nrmP (spSx 49) 8 [8])=treeS (bI s a == 32) s a n r:=by kernel_rfl
end Go.Proofs.Tryz
namespace Go.Proofs.Tryz
open Go.Ad
def scanS (s:List UInt8):Nat→Nat→List Tok→(Nat × Int) ⊕ List Tok
 | 0,_,L=>.inr L
 | k+1,a,L=>bif decide (a < s.length) then
   (bif bAt s a == 32 then scanS s k (a+1) L
    else bif (tokK (s.drop a)).2.2 != 0 then .inl (a,(tokK (s.drop a)).2.2)
    else scanS s k (a+(tokK (s.drop a)).2.1) (L++[((tokK (s.drop a)).1,(s.drop a).take (tokK (s.drop a)).2.1,(a:Int))]))
   else .inr L
theorem drop_ne {s:List UInt8} {a:Nat} (h:a < s.length):(s.drop a).isEmpty=false:=by
 have:0 < (s.drop a).length:=by rw [List.length_drop]; omega
 cases he:s.drop a with
 | nil=>rw [he] at this; simp at this
 | cons=>rfl
theorem scanS_fuel (s:List UInt8):∀ (k a:Nat) (L:List Tok),s.length - a≤k→scanS s k a L=scanS s (s.length - a) a L:=by
 intro k
 induction k using Nat.strongRecOn with
 | _ k ih =>
  intro a L hk
  cases k with
  | zero=>rw [show s.length - a=0 by omega]
  | succ k =>
   by_cases ha:a < s.length
   ·obtain ⟨j,hj⟩:∃ j,s.length - a=j+1:=⟨s.length - a - 1,by omega⟩
    rw [hj]
    simp only [scanS,decide_eq_true ha,cond_true]
    cases bAt s a == 32 with
    | true =>
     simp only [cond_true]
     rw [ih k (by omega) (a+1) L (by omega),show s.length - (a+1)=j by omega]
    | false =>
     simp only [cond_false]
     cases he:(tokK (s.drop a)).2.2 != 0 with
     | true=>rfl
     | false =>
      simp only [cond_false]
      have h0:(tokK (s.drop a)).2.2=0:=by simpa using he
      have hp:=(tokK_le (s.drop a) (drop_ne ha)).2 h0
      rw [ih k (by omega) _ _ (by omega),ih j (by omega) _ _ (by omega)]
   ·rw [show s.length - a=0 by omega]
    simp only [scanS,decide_eq_false ha,cond_false]
section
variable {s:List UInt8} {a:Nat} {R:Nat→Tok} {n:Nat}
theorem treeS_end (b:Bool) (h:a=s.length):treeS b s a n R=some (.exit 0,[.s s,.n n,.n n,.r (fun i=>rowT (R i))]):=by
 unfold treeS; rw [decide_eq_false (by omega)]; rfl
theorem treeS_blank (h:a < s.length) (hs:s.length < 2 ^ 62):treeS true s a n R=some (.normal,lfScn s ((a+1:Nat):Int) n (fun i=>rowT (R i))):=by
 unfold treeS
 have e1:W ((a:Int)+1)=((a+1:Nat):Int):=by rw [W,wrap64 (by omega) (by omega)]; omega
 rw [decide_eq_true (show (a:Int) < (s.length:Int) by omega),decide_eq_true (show 0≤(a:Int)∧(a:Int) < (s.length:Int) by omega),e1]; rfl
theorem szOK_drop (h:s.length < 2 ^ 62) (a:Nat):szOK (s.drop a)=true:=decide_eq_true (by rw [List.length_drop]; omega)
theorem treeS_err (h:a < s.length) (hs:s.length < 2 ^ 62) (he:((tokK (s.drop a)).2.2 != 0)=true):treeS false s a n R=some (.ret,lfRsn a (tokK (s.drop a)).2.2):=by
 unfold treeS
 rw [decide_eq_true (show (a:Int) < (s.length:Int) by omega),decide_eq_true (show 0≤(a:Int)∧(a:Int) < (s.length:Int) by omega),Int.toNat_natCast,List.take_length,szOK_drop hs,drop_ne h,he,
  decide_eq_true (show 0≤(a:Int)∧(a:Int)≤(s.length:Int) by omega)]; rfl
theorem treeS_tok (h:a < s.length) (hs:s.length < 2 ^ 30) (hn:n≤s.length) (he:((tokK (s.drop a)).2.2 != 0)=false):treeS false s a n R =
  some (.normal,lfScn s ((a+(tokK (s.drop a)).2.1:Nat):Int) (n+1) (addRow n (fun i=>rowT (R i)) [.sint .i64 (tokK (s.drop a)).1,.sstr ((s.drop a).take (tokK (s.drop a)).2.1),.sint .i64 a])):=by
 have hl:=(tokK_le (s.drop a) (drop_ne h)).1
 rw [List.length_drop] at hl
 unfold treeS
 rw [decide_eq_true (show (a:Int) < (s.length:Int) by omega),decide_eq_true (show 0≤(a:Int)∧(a:Int) < (s.length:Int) by omega),Int.toNat_natCast,List.take_length,szOK_drop (by omega),drop_ne h,he,
  decide_eq_true (show 0≤(a:Int)∧(a:Int)≤(s.length:Int) by omega)]
 generalize tokK (s.drop a)=t at hl
 have e1:W ((a:Int)+(t.2.1:Int))=((a+t.2.1:Nat):Int):=by rw [W,wrap64 (by omega) (by omega)]; omega
 rw [e1,Int.toNat_natCast,decide_eq_true (show 0≤((a+t.2.1:Nat):Int)∧((a+t.2.1:Nat):Int)≤(s.length:Int) by omega),decide_eq_true (show 0≤(a:Int)∧(a:Int)≤((a+t.2.1:Nat):Int) by omega),
  decide_eq_true (show n+1 < 2147483648∧n=n by omega)]
 rw [List.drop_take,show a+t.2.1 - a=t.2.1 by omega]
 rfl
end
def stS (k:Nat) (s:List UInt8) (x:Nat × List Tok):St:=⟨(spSc k).rho (lfScn s x.1 x.2.length (rowsT x.2)),(spSc k).heap (lfScn s x.1 x.2.length (rowsT x.2)),[8]⟩
def endS (k:Nat) (s:List UInt8):(Nat × Int) ⊕ List Tok→AEx × St
 | .inl (a,e)=>(.ret,⟨(spSr k).rho (lfRsn a e),(spSr k).heap (lfRsn a e),[8]⟩)
 | .inr L=>(.exit 0,⟨(spSe k).rho [.s s,.n L.length,.n L.length,.r (rowsT L)],(spSe k).heap [.s s,.n L.length,.n L.length,.r (rowsT L)],[8]⟩)
theorem loopS {A:Amb} (hT:Tab A) (hG:prog.globals.size≤A.G) {body:Code} {k:Nat} (hk50:k=50 ∨ k=49)
  (hr:∀ (s:List UInt8) (a n:Nat) (r:Nat→Tok),execK prog (runK prog pT 60) noBps body ((spSc k).rho (lfScn s a n (fun i=>rowT (r i)))) ((spSc k).heap (lfScn s a n (fun i=>rowT (r i)))) (nrmP (spSx k) 8 [8])=treeS (bAt s a == 32) s a n r)
  (s:List UInt8) (hs:s.length≤4096) {Bb:Heap} (hB:Bb.length=8):SEB prog A Bb (.loop body) (stS k s (0,[])) (endS k s (scanS s s.length 0 [])).1 (endS k s (scanS s s.length 0 [])).2:=by
 have hp:=pT_ok hT hG
 have hokD:∀ e,okD 8 [8] 0 (spSx k e).h=true:=fun e=>by cases e <;> rfl
 refine SEB.while (fun x:Nat × List Tok=>x.1≤s.length∧x.2.length≤x.1) (fun x=>s.length - x.1) (stS k s) (fun x=>endS k s (scanS s (s.length - x.1) x.1 x.2)) (fun x hx=>?_) (0,[]) ⟨Nat.zero_le _,Nat.le_refl _⟩
 obtain ⟨a,L⟩:=x
 obtain ⟨h1,h2⟩:=hx
 simp only at h1 h2 ⊢
 have hk:=hr s a L.length (fun i=>L.getD i tok0)
 by_cases ha:a < s.length
 ·obtain ⟨j,hj⟩:∃ j,s.length - a=j+1:=⟨s.length - a - 1,by omega⟩
  cases hb:bAt s a == 32 with
  | true =>
   rw [hb,treeS_blank ha (by omega)] at hk
   left
   refine ⟨(a+1,L),⟨by simp only; omega,by simp only; omega⟩,by simp only; omega,?_,SEB.of_KP (e:=.normal) (sp:=spSx k) hmix hnum hp (.none _) hB hk rfl⟩
   simp only
   rw [hj,show s.length - (a+1)=j by omega]
   simp only [scanS,decide_eq_true ha,hb,cond_true]
  | false =>
   rw [hb] at hk
   cases he:(tokK (s.drop a)).2.2 != 0 with
   | true =>
    rw [treeS_err ha (by omega) he] at hk
    right
    rw [hj]
    simp only [scanS,decide_eq_true ha,hb,he,cond_true,cond_false]
    exact ⟨by simp [endS],SEB.of_KP (e:=.ret) (sp:=spSx k) hmix hnum hp (.none _) hB hk rfl⟩
   | false =>
    rw [treeS_tok ha (by omega) (by omega) he] at hk
    have h0:(tokK (s.drop a)).2.2=0:=by simpa using he
    obtain ⟨hl,hpos⟩:=tokK_le (s.drop a) (drop_ne ha)
    have hpos:=hpos h0
    rw [List.length_drop] at hl
    left
    refine ⟨(a+(tokK (s.drop a)).2.1,L++[((tokK (s.drop a)).1,(s.drop a).take (tokK (s.drop a)).2.1,(a:Int))]),⟨by simp only; omega,by simp only [List.length_append,List.length_singleton]; omega⟩,by simp only; omega,?_,?_⟩
    ·simp only
     rw [hj,scanS_fuel s j _ _ (by omega) |>.symm]
     simp only [scanS,decide_eq_true ha,hb,he,cond_true,cond_false]
    ·have h1:=SEB.of_KP (e:=.normal) (sp:=spSx k) hmix hnum hp (.none _) hB hk rfl
     have e:(L++[((tokK (s.drop a)).1,(s.drop a).take (tokK (s.drop a)).2.1,(a:Int))]).length=L.length+1:=by simp
     unfold stS
     simp only
     rw [e]
     rcases hk50 with rfl | rfl
     all_goals exact h1.wk_out (Wk.addRow (b:=8) (f:=rowT) (d:=tok0) (L:=L) (x:=((tokK (s.drop a)).1,(s.drop a).take (tokK (s.drop a)).2.1,(a:Int))) rowT_tag rfl rfl (fun h=>by rw [hB] at h; omega))
 ·right
  rw [treeS_end _ (by omega)] at hk
  rw [show s.length - a=0 by omega]
  exact ⟨by simp [scanS,endS],SEB.of_KP (e:=.exit 0) (sp:=spSx k) hmix hnum hp (.none _) hB hk rfl⟩
end Go.Proofs.Tryz
namespace Go.Proofs.Tryz
open Go.Ad
def scL (s:List UInt8):List Tok:=match scanS s s.length 0 [] with | .inr L=>L | .inl _=>[]
def scB (s:List UInt8):Bool:=match scanS s s.length 0 [] with | .inr _=>false | .inl _=>true
def scA (s:List UInt8):Int:=match scanS s s.length 0 [] with | .inr _=>0 | .inl (a,_)=>a
def scE (s:List UInt8):Int:=match scanS s s.length 0 [] with | .inr _=>0 | .inl (_,e)=>e
def scT (s:List UInt8):List Tok:=scL s++[(3,[],(s.length:Int))]
def hookS (k:Nat):Blk:=hookP (spSc k) 8 [8] fun
 | [.s s,.n n,.i a,.n n',.r _]=>.br (decide (n=0∧n'=0∧a=0∧s.length≤4096)) (.br (scB s) (.leaf (.ret,spSr k,lfRsn (scA s) (scE s))) (.leaf (.normal,spSe k,[.s s,.n (scL s).length,.n (scL s).length,.r (rowsT (scL s))]))) .fail
 | _=>.fail
noncomputable def pS18:Prims:=pT.addb 18 0 (hookS 50)
noncomputable def pS19:Prims:=pT.addb 19 0 (hookS 49)
section
variable {A:Amb} (hT:Tab A) (hG:prog.globals.size≤A.G)
include hT hG
theorem hookS_ok {body:Code} {k:Nat} (hk50:k=50 ∨ k=49)
  (hr:∀ (s:List UInt8) (a n:Nat) (r:Nat→Tok),execK prog (runK prog pT 60) noBps body ((spSc k).rho (lfScn s a n (fun i=>rowT (r i)))) ((spSc k).heap (lfScn s a n (fun i=>rowT (r i)))) (nrmP (spSx k) 8 [8])=treeS (bAt s a == 32) s a n r) :
  ∀ ρ B e' ρ' B' D,(hookS k ρ B).get=some (e',ρ',B',D)→AFr B B' D∧SEB prog A B (.block 0 (.loop body)) ⟨ρ,B,[]⟩ e' ⟨ρ',B',D⟩:=by
 refine hookP_ok (by rfl) fun ls e sq l h=>?_
 split at h
 ·rename_i s n a n' r
  obtain ⟨hc,hv⟩:=Tr.br1 h
  clear h
  obtain ⟨rfl,rfl,rfl,hs⟩:=of_decide_eq_true hc
  have key:∀ Bb:Heap,Bb.length=8→SEB prog A Bb (.loop body) ⟨(spSc k).rho [.s s,.n 0,.i 0,.n 0,.r r],(spSc k).heap [.s s,.n 0,.i 0,.n 0,.r r],[8]⟩ (endS k s (scanS s s.length 0 [])).1 (endS k s (scanS s s.length 0 [])).2:=fun Bb hB=>by
   refine SEB.wk_in ?_ (loopS hT hG hk50 hr s hs hB)
   rcases hk50 with rfl | rfl
   all_goals exact Wk.obj (b:=8) (o:=.vec 0 r 3 52) (o':=.vec 0 (rowsT []) 3 52) rfl (fun _=>by simp) (fun h=>h) (fun h=>h) fun ι hh l ho=>OR.rows (fun i hi=>by omega) ho
  cases hsc:scanS s s.length 0 [] with
  | inl x =>
   obtain ⟨a,e0⟩:=x
   have e1:scB s=true:=by simp [scB,hsc]
   have e2:scA s=a:=by simp [scA,hsc]
   have e3:scE s=e0:=by simp [scE,hsc]
   rw [e1] at hv
   simp only [Tr.get,Option.some.injEq,Prod.mk.injEq] at hv
   obtain ⟨rfl,rfl,rfl⟩:=hv
   refine ⟨by rcases hk50 with rfl | rfl <;> exact ⟨.inr rfl,.inr rfl,.inr rfl,.inr rfl,.inr rfl,.inr rfl,.inr rfl,.inr rfl,.inl rfl,trivial⟩,fun Bb hB=>SEB.block_other (id:=0) ?_ (by simp)⟩
   have:=key Bb hB
   rw [hsc] at this
   rw [e2,e3]; exact this
  | inr L =>
   have e1:scB s=false:=by simp [scB,hsc]
   have e2:scL s=L:=by simp [scL,hsc]
   rw [e1] at hv
   simp only [Tr.get,Option.some.injEq,Prod.mk.injEq] at hv
   obtain ⟨rfl,rfl,rfl⟩:=hv
   refine ⟨by rcases hk50 with rfl | rfl <;> exact ⟨.inr rfl,.inr rfl,.inr rfl,.inr rfl,.inr rfl,.inr rfl,.inr rfl,.inr rfl,.inl rfl,trivial⟩,fun Bb hB=>SEB.block_exit (id:=0) ?_⟩
   have:=key Bb hB
   rw [hsc] at this
   rw [e2]; exact this
 ·cases h
theorem pS18_ok:PrimOK prog A pS18 :=
 (pT_ok hT hG).addb func18 (show f18.body=some code18 by kernel_rfl) (by kernel_rfl) (hookS_ok hT hG (.inl rfl) (body:=body18) fun s a n r=>by rw [round18,cls5]; simp [bI,bAt])
theorem pS19_ok:PrimOK prog A pS19 :=
 (pT_ok hT hG).addb func19 (show f19.body=some code19 by kernel_rfl) (by kernel_rfl) (hookS_ok hT hG (.inr rfl) (body:=body19) fun s a n r=>by rw [round19]; simp [bI,bAt])
end
end Go.Proofs.Tryz
namespace Go.Proofs.Tryz
open Go.Ad
def scanR (s:List UInt8):List Tok × Int × Int :=
 bif decide (s.length≤4096) then (bif scB s then ([],scA s,scE s) else (scT s,0,0)) else ([],0,17)
def sqL:SP:=⟨[.list 8,.int .i64,.int .i64],dd8++[.vec 3 52]⟩
def lfL (x:List Tok × Int × Int):List Lf:=[.n x.1.length,.i x.2.1,.i x.2.2,.n x.1.length,.r (rowsT x.1)]
def spTxt:SP:=⟨[.str],dd8⟩
def TSc:List Lf→Tr (SP × List Lf)
 | [.s s]=>.leaf (sqL,lfL (scanR s))
 | _=>.fail
def treeR (s:List UInt8):Option (List Lf) :=
 brK (decide ((s.length:Int) > 4096)) (some [.n 0,.i 0,.i 17,.n 0,.r (fun _=>[])]) (brK (decide (0=0∧0=0∧(0:Int)=0∧s.length≤4096)) (brK (scB s) (some [.n 0,.i (scA s),.i (scE s),.n 0,.r (fun _=>[])])
  (brK (decide ((scL s).length+1 < 2147483648∧(scL s).length=(scL s).length)) (some [.n ((scL s).length+1),.i 0,.i 0,.n ((scL s).length+1),.r (addRow (scL s).length (rowsT (scL s)) [.int .i64 3,.str [],.sint .i64 s.length])]) none)) none)
theorem run18 (s:List UInt8):(runK prog pS18 60).call 18 [.sstr s] (Bg 8) (finQ sqL 8 [])=treeR s:=by kernel_rfl
theorem run19 (s:List UInt8):(runK prog pS19 60).call 19 [.sstr s] (Bg 8) (finQ sqL 8 [])=treeR s:=by kernel_rfl
theorem scanS_len (s:List UInt8):∀ (k a:Nat) (L L':List Tok),a≤s.length→L.length≤a→scanS s k a L=.inr L'→L'.length≤s.length
 | 0,a,L,L',ha,hl,h=>by cases h; omega
 | k+1,a,L,L',ha,hl,h=>by
  simp only [scanS] at h
  by_cases hlt:a < s.length
  ·rw [decide_eq_true hlt,cond_true] at h
   cases hb:bAt s a == 32 with
   | true=>rw [hb,cond_true] at h; exact scanS_len s k (a+1) L L' (by omega) (by omega) h
   | false =>
    rw [hb,cond_false] at h
    cases he:(tokK (s.drop a)).2.2 != 0 with
    | true=>rw [he,cond_true] at h; cases h
    | false =>
     rw [he,cond_false] at h
     have h0:(tokK (s.drop a)).2.2=0:=by simpa using he
     obtain ⟨q1,q2⟩:=tokK_le (s.drop a) (drop_ne hlt)
     have q2:=q2 h0
     rw [List.length_drop] at q1
     exact scanS_len s k _ _ L' (by omega) (by simp; omega) h
  ·rw [decide_eq_false hlt,cond_false] at h; cases h; omega
theorem scL_len (s:List UInt8):(scL s).length≤s.length:=by
 unfold scL
 cases h:scanS s s.length 0 [] with
 | inl x=>simp
 | inr L=>exact scanS_len s s.length 0 [] L (Nat.zero_le _) (Nat.le_refl _) h
theorem scan_wk {A:Amb} (s:List UInt8):∃ l0,treeR s=some l0∧∀ Bb:Heap,Bb.length=8→Wk A Bb ⟨sqL.rho l0,sqL.heap l0,[]⟩ ⟨sqL.rho (lfL (scanR s)),sqL.heap (lfL (scanR s)),[]⟩:=by
 have nil:∀ (a e:Int) (Bb:Heap),Bb.length=8→Wk A Bb ⟨sqL.rho [.n 0,.i a,.i e,.n 0,.r (fun _=>[])],sqL.heap [.n 0,.i a,.i e,.n 0,.r (fun _=>[])],[]⟩ ⟨sqL.rho (lfL ([],a,e)),sqL.heap (lfL ([],a,e)),[]⟩:=fun a e Bb hB =>
  Wk.obj (b:=8) (o:=.vec 0 (fun _=>[]) 3 52) (o':=.vec 0 (rowsT []) 3 52) rfl (fun h=>by rw [hB] at h; omega) (fun h=>h) (fun h=>h) fun ι hh l ho=>OR.rows (fun i hi=>by omega) ho
 unfold treeR scanR
 by_cases hs:s.length≤4096
 ·rw [decide_eq_false (show ¬ (s.length:Int) > 4096 by omega),decide_eq_true (show 0=0∧0=0∧(0:Int)=0∧s.length≤4096 from ⟨rfl,rfl,rfl,hs⟩),decide_eq_true hs]
  cases scB s with
  | true=>exact ⟨_,rfl,nil _ _⟩
  | false =>
   have hl:=scL_len s
   rw [decide_eq_true (show (scL s).length+1 < 2147483648∧(scL s).length=(scL s).length from ⟨by omega,rfl⟩)]
   refine ⟨_,rfl,fun Bb hB=>?_⟩
   have e:(scT s).length=(scL s).length+1:=by simp [scT]
   simp only [cond_true,cond_false,lfL]
   rw [e]
   exact Wk.addRow (b:=8) (f:=rowT) (d:=tok0) (L:=scL s) (x:=(3,[],(s.length:Int))) rowT_tag rfl rfl (fun h=>by rw [hB] at h; omega)
 ·rw [decide_eq_true (show (s.length:Int) > 4096 by omega),decide_eq_false hs]
  exact ⟨_,rfl,nil _ _⟩
noncomputable def pS:Prims:=(pT.addh 18 (liftG 8 (funQ spTxt 8 [] TSc))).addh 19 (liftG 8 (funQ spTxt 8 [] TSc))
theorem pS_ok {A:Amb} (hT:Tab A) (hG:prog.globals.size≤A.G):PrimOK prog A pS:=by
 have fr:∀ s,frP [] 0 (spTxt.heap [.s s]) (sqL.heap (lfL (scanR s))):=fun s=>⟨.inr rfl,.inr rfl,.inr rfl,.inr rfl,.inr rfl,.inr rfl,.inr rfl,.inr rfl,trivial⟩
 refine ((pT_ok hT hG).addl gsz func18 (by kernel_rfl) (funQ_ok hmix hnum rfl fun ls sq l h=>?_)).addl gsz func19 (by kernel_rfl) (funQ_ok hmix hnum rfl fun ls sq l h=>?_)
 ·unfold TSc at h
  split at h
  ·rename_i s
   cases h
   obtain ⟨l0,h1,h2⟩:=scan_wk (A:=A) s
   exact ⟨fr s,rfl,pS18,60,l0,pS18_ok hT hG,(run18 s).trans h1,h2⟩
  ·cases h
 ·unfold TSc at h
  split at h
  ·rename_i s
   cases h
   obtain ⟨l0,h1,h2⟩:=scan_wk (A:=A) s
   exact ⟨fr s,rfl,pS19,60,l0,pS19_ok hT hG,(run19 s).trans h1,h2⟩
  ·cases h
end Go.Proofs.Tryz
namespace Go.Proofs.Tryz
open Go.Ad
end Go.Proofs.Tryz
namespace Go.Proofs.Tryz
open Go.Ad
section
variable {n i k:Nat} {ty:Nat} {t p:Tok} {r:Nat→List AV} {s:List UInt8} {ad:AV}
end
end Go.Proofs.Tryz
namespace Go.Proofs.Tryz
open Go.Ad
def tokOf:List AV→Tok
 | [a,b,c]=>(((snum a).getD (.i64,0)).2,(sstr? b).getD [],((snum c).getD (.i64,0)).2)
 | _=>tok0
def toksOf (n:Nat) (f:Nat→List AV):List Tok:=(List.range n).map fun i=>tokOf (f i)
theorem toksOf_rows (L:List Tok):toksOf L.length (rowsT L)=L:=by
 unfold toksOf
 apply List.ext_getElem?
 intro i
 rw [List.getElem?_map]
 by_cases h:i < L.length
 ·rw [List.getElem?_range h,Option.map_some,List.getElem?_eq_getElem h]
  simp only [rowsL,rowT,tokOf,snum,sstr?,Option.getD_some]
  rw [List.getD_eq_getElem?_getD,List.getElem?_eq_getElem h]; rfl
 ·rw [List.getElem?_eq_none (by simp; omega),List.getElem?_eq_none (by omega)]; rfl
def isToks (n:Nat) (f:Nat→List AV):Prop:=f=rowsT (toksOf n f)∧∀ t,t ∈ toksOf n f→szOK t.2.1=true
theorem isToks_rows {L:List Tok} (h:∀ t,t ∈ L→szOK t.2.1=true):isToks L.length (rowsT L):=by
 unfold isToks; rw [toksOf_rows]; exact ⟨rfl,h⟩
end Go.Proofs.Tryz
namespace Go.Proofs.Tryz
open Go.Ad
end Go.Proofs.Tryz
namespace Go.Proofs.Tryz
open Go.Ad
section
variable {ty n i:Nat} {t p:Tok} {f:Nat→List AV} {s:List UInt8}
end
end Go.Proofs.Tryz
namespace Go.Proofs.Tryz
open Go.Ad
theorem drop_tok {L:List Tok} {i:Nat} (hi:i < L.length):∃ t M,L.drop i=t :: M∧L.getD i tok0=t∧L.drop (i+1)=M∧t ∈ L∧M.isEmpty=decide (i=L.length - 1):=by
 refine ⟨L[i],L.drop (i+1),List.drop_eq_getElem_cons hi,?_,rfl,List.getElem_mem hi,?_⟩
 ·rw [List.getD_eq_getElem?_getD,List.getElem?_eq_getElem hi]; rfl
 ·have hl:(L.drop (i+1)).length=L.length - (i+1):=by rw [List.length_drop]
  cases hM:L.drop (i+1) with
  | nil=>rw [hM] at hl; simp at hl; simp; omega
  | cons a b=>rw [hM] at hl; simp at hl; simp; omega
section
variable {A:Amb} (hT:Tab A) (hG:prog.globals.size≤A.G)
include hT hG
end
end Go.Proofs.Tryz
namespace Go.Proofs.Tryz
open Go.Ad
end Go.Proofs.Tryz
namespace Go.Proofs.Tryz
open Go.Ad
end Go.Proofs.Tryz
