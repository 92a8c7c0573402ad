/- The lexer's program: the tokens of a text: the loops of both scans. -/
import Derived.Test.YtfjgehlpjppggaaGreatDoorBase
noncomputable section
namespace Go.Proofs.Tryz
open Go.Ad
abbrev Tok:=Int × List UInt8 × Int
def I9:Tok:=(0,[],0)
def I1 (x:Tok):List AV:=[.sint .i64 x.1,.sstr x.2.1,.sint .i64 x.2.2]
abbrev F5 (L:List Tok):Nat->List AV:=C4q I1 I9 L
theorem D2u (y:Tok):B6z (I1 y)=some [.n .i64,.s,.n .i64]:=rfl
def B3q (k:Nat):SP:=⟨[.str,.drop,.drop,.drop,.drop,.list 8,.int .i64]++dr k,dd8++[.vec 3 52]⟩
def F6d (k:Nat):SP:=⟨[.str,.drop,.drop,.drop,.drop,.list 8,.drop]++dr k,dd8++[.vec 3 52]⟩
def F6k (k:Nat):SP:=⟨[.drop,.drop,.is (.slice none 0 0),.int .i64,.int .i64,.drop,.drop]++dr k,dd8++[.vec 3 52]⟩
def D1n (a e:Int):List Lf:=[.i a,.i e,.n 0,.r (fun _=>[])]
def C6l (k:Nat):AEx->SP
 | .ret=>F6k k
 | .normal=>B3q k
 | .exit _=>F6d k
def F2r:Code:=f18.body.getD .skip
def E8a:Code:=f19.body.getD .skip
def F0t:Code:=I7 (J7 0 F2r)
def E8w:Code:=I7 (J7 0 E8a)
def A4x (s:List UInt8) (a:Int) (n:Nat) (r:Nat->List AV):List Lf:=[.s s,.n n,.i a,.n n,.r r]
def A7h (blank:Bool) (s:List UInt8) (a:Int) (n:Nat) (r:Nat->Tok):Option (AEx × List Lf) :=
 brK (decide (a < (s.length:Int))) (brK (decide (0<=a/\a < (s.length:Int))) (brK blank (some (.normal,A4x s (W (a+1)) n (fun i=>I1 (r i))))
  (brK (true && decide (0<=a/\a<=(s.length:Int))) (brK (D9 (List.drop a.toNat (List.take s.length s)) && !(List.drop a.toNat (List.take s.length s)).isEmpty)
   (brK ((R9 (List.drop a.toNat (List.take s.length s))).2.2 != 0) (some (.ret,D1n a (R9 (List.drop a.toNat (List.take s.length s))).2.2))
    (brK (decide (0<=W (a+((R9 (List.drop a.toNat (List.take s.length s))).2.1:Int))/\W (a+((R9 (List.drop a.toNat (List.take s.length s))).2.1:Int))<=(s.length:Int)) &&
       decide (0<=a/\a<=((W (a+((R9 (List.drop a.toNat (List.take s.length s))).2.1:Int))).toNat:Int)))
     (brK (decide (n+1 < 2147483648/\n=n)) (some (.normal,A4x s (W (a+((R9 (List.drop a.toNat (List.take s.length s))).2.1:Int))) (n+1)
      (addRow n (fun i=>I1 (r i)) [.sint .i64 (R9 (List.drop a.toNat (List.take s.length s))).1,.sstr (List.drop a.toNat (List.take (W (a+((R9 (List.drop a.toNat (List.take s.length s))).2.1:Int))).toNat s)),.sint .i64 a]))) none) none)) none) none)) none)
  (some (.exit 0,[.s s,.n n,.n n,.r (fun i=>I1 (r i))]))
theorem F4j (s:List UInt8) (a:Int) (n:Nat) (r:Nat->Tok):E9 prog (C8 prog pT 60) F7 F0t ((B3q 50).rho (A4x s a n (fun i=>I1 (r i)))) ((B3q 50).heap (A4x s a n (fun i=>I1 (r i)))) (H6 (C6l 50) 8 [8])=A7h (A0u (bI s a) == 5) s a n r:=by kernel_rfl
theorem F4i (s:List UInt8) (a:Int) (n:Nat) (r:Nat->Tok):E9 prog (C8 prog pT 60) F7 E8w ((B3q 49).rho (A4x s a n (fun i=>I1 (r i)))) ((B3q 49).heap (A4x s a n (fun i=>I1 (r i)))) (H6 (C6l 49) 8 [8])=A7h (bI s a == 32) s a n r:=by kernel_rfl
end Go.Proofs.Tryz
namespace Go.Proofs.Tryz
open Go.Ad
def X7 (s:List UInt8):Nat->Nat->List Tok->(Nat × Int) ⊕ List Tok
 | 0,_,L=>.inr L
 | k+1,a,L=>bif decide (a < s.length) then
   (bif bAt s a == 32 then X7 s k (a+1) L
    else bif (R9 (s.drop a)).2.2 != 0 then .inl (a,(R9 (s.drop a)).2.2)
    else X7 s k (a+(R9 (s.drop a)).2.1) (L++[((R9 (s.drop a)).1,(s.drop a).take (R9 (s.drop a)).2.1,(a:Int))]))
   else .inr L
theorem B0l {s:List UInt8} {a:Nat} (h:a < s.length):(s.drop a).isEmpty=false:=by
 have:0 < (s.drop a).length:=by rw [List.length_drop]; omega
 cases he:s.drop a with
 | nil=>rw [he] at this; simp at this
 | cons=>rfl
theorem D5m (s:List UInt8):∀ (k a:Nat) (L:List Tok),s.length - a<=k->X7 s k a L=X7 s (s.length - a) a L:=by
 intro k
 induction k using Nat.strongRecOn with
 | _ k ih =>
  intro a L hk
  cases k with
  | zero=>rw [show s.length - a=0 by omega]
  | succ k =>
   by_cases ha:a < s.length
   ·obtain ⟨j,hj⟩:∃ j,s.length - a=j+1:=⟨s.length - a - 1,by omega⟩
    rw [hj]
    simp only [X7,dT ha,cond_true]
    cases bAt s a == 32 with
    | true =>
     simp only [cond_true]
     rw [ih k (by omega) (a+1) L (by omega),show s.length - (a+1)=j by omega]
    | false =>
     simp only [cond_false]
     cases he:(R9 (s.drop a)).2.2 != 0 with
     | true=>rfl
     | false =>
      simp only [cond_false]
      have h0:(R9 (s.drop a)).2.2=0:=by simpa using he
      have hp:=(B7s (s.drop a) (B0l ha)).2 h0
      rw [ih k (by omega) _ _ (by omega),ih j (by omega) _ _ (by omega)]
   ·rw [show s.length - a=0 by omega]
    simp only [X7,dF ha,cond_false]
section
variable {s:List UInt8} {a:Nat} {R:Nat->Tok} {n:Nat}
theorem E5f (b:Bool) (h:a=s.length):A7h b s a n R=some (.exit 0,[.s s,.n n,.n n,.r (fun i=>I1 (R i))]):=by
 unfold A7h; rw [dF (by omega)]; rfl
theorem D0h (h:a < s.length) (hs:s.length < 2 ^ 62):A7h true s a n R=some (.normal,A4x s ((a+1:Nat):Int) n (fun i=>I1 (R i))):=by
 unfold A7h
 have e1:W ((a:Int)+1)=((a+1:Nat):Int):=by rw [W,wrap64 (by omega) (by omega)]; omega
 rw [dT (show (a:Int) < (s.length:Int) by omega),dT (show 0<=(a:Int)/\(a:Int) < (s.length:Int) by omega),e1]; rfl
theorem C4y (h:s.length < 2 ^ 62) (a:Nat):D9 (s.drop a)=true:=dT (by rw [List.length_drop]; omega)
theorem E2p (h:a < s.length) (hs:s.length < 2 ^ 62) (he:((R9 (s.drop a)).2.2 != 0)=true):A7h false s a n R=some (.ret,D1n a (R9 (s.drop a)).2.2):=by
 unfold A7h
 rw [dT (show (a:Int) < (s.length:Int) by omega),dT (show 0<=(a:Int)/\(a:Int) < (s.length:Int) by omega),Int.toNat_natCast,List.take_length,C4y hs,B0l h,he,
  dT (show 0<=(a:Int)/\(a:Int)<=(s.length:Int) by omega)]; rfl
theorem E3w (h:a < s.length) (hs:s.length < 2 ^ 30) (hn:n<=s.length) (he:((R9 (s.drop a)).2.2 != 0)=false):A7h false s a n R =
  some (.normal,A4x s ((a+(R9 (s.drop a)).2.1:Nat):Int) (n+1) (addRow n (fun i=>I1 (R i)) [.sint .i64 (R9 (s.drop a)).1,.sstr ((s.drop a).take (R9 (s.drop a)).2.1),.sint .i64 a])):=by
 have hl:=(B7s (s.drop a) (B0l h)).1
 rw [List.length_drop] at hl
 unfold A7h
 rw [dT (show (a:Int) < (s.length:Int) by omega),dT (show 0<=(a:Int)/\(a:Int) < (s.length:Int) by omega),Int.toNat_natCast,List.take_length,C4y (by omega),B0l h,he,
  dT (show 0<=(a:Int)/\(a:Int)<=(s.length:Int) by omega)]
 generalize R9 (s.drop a)=t at hl
 have e1:W ((a:Int)+(t.2.1:Int))=((a+t.2.1:Nat):Int):=by rw [W,wrap64 (by omega) (by omega)]; omega
 rw [e1,Int.toNat_natCast,dT (show 0<=((a+t.2.1:Nat):Int)/\((a+t.2.1:Nat):Int)<=(s.length:Int) by omega),dT (show 0<=(a:Int)/\(a:Int)<=((a+t.2.1:Nat):Int) by omega),
  dT (show n+1 < 2147483648/\n=n by omega)]
 rw [List.drop_take,show a+t.2.1 - a=t.2.1 by omega]
 rfl
end
def stS (k:Nat) (s:List UInt8) (x:Nat × List Tok):St:=⟨(B3q k).rho (A4x s x.1 x.2.length (F5 x.2)),(B3q k).heap (A4x s x.1 x.2.length (F5 x.2)),[8]⟩
def D5o (k:Nat) (s:List UInt8):(Nat × Int) ⊕ List Tok->AEx × St
 | .inl (a,e)=>(.ret,⟨(F6k k).rho (D1n a e),(F6k k).heap (D1n a e),[8]⟩)
 | .inr L=>(.exit 0,⟨(F6d k).rho [.s s,.n L.length,.n L.length,.r (F5 L)],(F6d k).heap [.s s,.n L.length,.n L.length,.r (F5 L)],[8]⟩)
theorem H0x {A:Amb} (hT:Tab A) (hG:prog.globals.size<=A.G) {body:Code} {k:Nat} (hk50:k=50 \/ k=49)
  (hr:∀ (s:List UInt8) (a n:Nat) (r:Nat->Tok),E9 prog (C8 prog pT 60) F7 body ((B3q k).rho (A4x s a n (fun i=>I1 (r i)))) ((B3q k).heap (A4x s a n (fun i=>I1 (r i)))) (H6 (C6l k) 8 [8])=A7h (bAt s a == 32) s a n r)
  (s:List UInt8) (hs:s.length<=4096) {Bb:Heap} (hB:Bb.length=8):SEB prog A Bb (.loop body) (stS k s (0,[])) (D5o k s (X7 s s.length 0 [])).1 (D5o k s (X7 s s.length 0 [])).2:=by
 have hp:=D9g hT hG
 have hokD:∀ e,okD 8 [8] 0 (C6l k e).h=true:=fun e=>by cases e <;> rfl
 refine SEB.while (fun x:Nat × List Tok=>x.1<=s.length/\x.2.length<=x.1) (fun x=>s.length - x.1) (stS k s) (fun x=>D5o k s (X7 s (s.length - x.1) x.1 x.2)) (fun x hx=>?_) (0,[]) ⟨Nat.zero_le _,Nat.le_refl _⟩
 obtain ⟨a,L⟩:=x
 obtain ⟨h1,h2⟩:=hx
 simp only at h1 h2 ⊢
 have hk:=hr s a L.length (fun i=>L.getD i I9)
 by_cases ha:a < s.length
 ·obtain ⟨j,hj⟩:∃ j,s.length - a=j+1:=⟨s.length - a - 1,by omega⟩
  cases hb:bAt s a == 32 with
  | true =>
   rw [hb,D0h ha (by omega)] at hk
   left
   refine ⟨(a+1,L),⟨by simp only; omega,by simp only; omega⟩,by simp only; omega,?_,SEB.of_KP (e:=.normal) (sp:=C6l k) D5 D6 hp (.none _) hB hk rfl⟩
   simp only
   rw [hj,show s.length - (a+1)=j by omega]
   simp only [X7,dT ha,hb,cond_true]
  | false =>
   rw [hb] at hk
   cases he:(R9 (s.drop a)).2.2 != 0 with
   | true =>
    rw [E2p ha (by omega) he] at hk
    right
    rw [hj]
    simp only [X7,dT ha,hb,he,cond_true,cond_false]
    exact ⟨by simp [D5o],SEB.of_KP (e:=.ret) (sp:=C6l k) D5 D6 hp (.none _) hB hk rfl⟩
   | false =>
    rw [E3w ha (by omega) (by omega) he] at hk
    have h0:(R9 (s.drop a)).2.2=0:=by simpa using he
    obtain ⟨hl,hpos⟩:=B7s (s.drop a) (B0l ha)
    have hpos:=hpos h0
    rw [List.length_drop] at hl
    left
    refine ⟨(a+(R9 (s.drop a)).2.1,L++[((R9 (s.drop a)).1,(s.drop a).take (R9 (s.drop a)).2.1,(a:Int))]),⟨by simp only; omega,by simp only [List.length_append,List.length_singleton]; omega⟩,by simp only; omega,?_,?_⟩
    ·simp only
     rw [hj,D5m s j _ _ (by omega) |>.symm]
     simp only [X7,dT ha,hb,he,cond_true,cond_false]
    ·have h1:=SEB.of_KP (e:=.normal) (sp:=C6l k) D5 D6 hp (.none _) hB hk rfl
     have e:(L++[((R9 (s.drop a)).1,(s.drop a).take (R9 (s.drop a)).2.1,(a:Int))]).length=L.length+1:=by simp
     unfold stS
     simp only
     rw [e]
     rcases hk50 with rfl | rfl
     all_goals exact h1.wk_out (Wk.addRow (b:=8) (f:=I1) (d:=I9) (L:=L) (x:=((R9 (s.drop a)).1,(s.drop a).take (R9 (s.drop a)).2.1,(a:Int))) D2u rfl rfl (fun h=>by rw [hB] at h; omega))
 ·right
  rw [E5f _ (by omega)] at hk
  rw [show s.length - a=0 by omega]
  exact ⟨by simp [X7,D5o],SEB.of_KP (e:=.exit 0) (sp:=C6l k) D5 D6 hp (.none _) hB hk rfl⟩
end Go.Proofs.Tryz
namespace Go.Proofs.Tryz
open Go.Ad
def scL (s:List UInt8):List Tok:=match X7 s s.length 0 [] with | .inr L=>L | .inl _=>[]
def scB (s:List UInt8):Bool:=match X7 s s.length 0 [] with | .inr _=>false | .inl _=>true
def scA (s:List UInt8):Int:=match X7 s s.length 0 [] with | .inr _=>0 | .inl (a,_)=>a
def scE (s:List UInt8):Int:=match X7 s s.length 0 [] with | .inr _=>0 | .inl (_,e)=>e
def scT (s:List UInt8):List Tok:=scL s++[(3,[],(s.length:Int))]
def E6p (k:Nat):Blk:=hookP (B3q k) 8 [8] fun
 | [.s s,.n n,.i a,.n n',.r _]=>.br (decide (n=0/\n'=0/\a=0/\s.length<=4096)) (.br (scB s) (.leaf (.ret,F6k k,D1n (scA s) (scE s))) (.leaf (.normal,F6d k,[.s s,.n (scL s).length,.n (scL s).length,.r (F5 (scL s))]))) .fail
 | _=>.fail
def G3l:Prims:=pT.addb 18 0 (E6p 50)
def G3e:Prims:=pT.addb 19 0 (E6p 49)
section
variable {A:Amb} (hT:Tab A) (hG:prog.globals.size<=A.G)
include hT hG
theorem D0x {body:Code} {k:Nat} (hk50:k=50 \/ k=49)
  (hr:∀ (s:List UInt8) (a n:Nat) (r:Nat->Tok),E9 prog (C8 prog pT 60) F7 body ((B3q k).rho (A4x s a n (fun i=>I1 (r i)))) ((B3q k).heap (A4x s a n (fun i=>I1 (r i)))) (H6 (C6l k) 8 [8])=A7h (bAt s a == 32) s a n r) :
  ∀ ρ B e' ρ' B' D,(E6p k ρ B).get=some (e',ρ',B',D)->AFr B B' D/\SEB prog A B (.block 0 (.loop body)) ⟨ρ,B,[]⟩ e' ⟨ρ',B',D⟩:=by
 refine M8 (by rfl) fun ls e sq l h=>?_
 split at h
 ·rename_i s n a n' r
  obtain ⟨hc,hv⟩:=Tr.br1 h
  clear h
  obtain ⟨rfl,rfl,rfl,hs⟩:=of_decide_eq_true hc
  have key:∀ Bb:Heap,Bb.length=8->SEB prog A Bb (.loop body) ⟨(B3q k).rho [.s s,.n 0,.i 0,.n 0,.r r],(B3q k).heap [.s s,.n 0,.i 0,.n 0,.r r],[8]⟩ (D5o k s (X7 s s.length 0 [])).1 (D5o k s (X7 s s.length 0 [])).2:=fun Bb hB=>by
   refine SEB.wk_in ?_ (H0x hT hG hk50 hr s hs hB)
   rcases hk50 with rfl | rfl
   all_goals exact Wk.obj (b:=8) (o:=.vec 0 r 3 52) (o':=.vec 0 (F5 []) 3 52) rfl (fun _=>by simp) (fun h=>h) (fun h=>h) fun ι hh l ho=>OR.rows (fun i hi=>by omega) ho
  cases hsc:X7 s s.length 0 [] with
  | inl x =>
   obtain ⟨a,e0⟩:=x
   have e1:scB s=true:=by simp [scB,hsc]
   have e2:scA s=a:=by simp [scA,hsc]
   have e3:scE s=e0:=by simp [scE,hsc]
   rw [e1] at hv
   simp only [Tr.get,sI,pI] at hv
   obtain ⟨rfl,rfl,rfl⟩:=hv
   refine ⟨by rcases hk50 with rfl | rfl <;> exact ⟨.inr rfl,.inr rfl,.inr rfl,.inr rfl,.inr rfl,.inr rfl,.inr rfl,.inr rfl,.inl rfl,trivial⟩,fun Bb hB=>SEB.block_other (id:=0) ?_ (by simp)⟩
   have:=key Bb hB
   rw [hsc] at this
   rw [e2,e3]; exact this
  | inr L =>
   have e1:scB s=false:=by simp [scB,hsc]
   have e2:scL s=L:=by simp [scL,hsc]
   rw [e1] at hv
   simp only [Tr.get,sI,pI] at hv
   obtain ⟨rfl,rfl,rfl⟩:=hv
   refine ⟨by rcases hk50 with rfl | rfl <;> exact ⟨.inr rfl,.inr rfl,.inr rfl,.inr rfl,.inr rfl,.inr rfl,.inr rfl,.inr rfl,.inl rfl,trivial⟩,fun Bb hB=>SEB.block_exit (id:=0) ?_⟩
   have:=key Bb hB
   rw [hsc] at this
   rw [e2]; exact this
 ·cases h
theorem F5l:PrimOK prog A G3l :=
 (D9g hT hG).addb func18 (show f18.body=some F2r by kernel_rfl) (by kernel_rfl) (D0x hT hG (.inl rfl) (body:=F0t) fun s a n r=>by rw [F4j,H1s]; simp [bI,bAt])
theorem F5h:PrimOK prog A G3e :=
 (D9g hT hG).addb func19 (show f19.body=some E8a by kernel_rfl) (by kernel_rfl) (D0x hT hG (.inr rfl) (body:=E8w) fun s a n r=>by rw [F4i]; simp [bI,bAt])
end
end Go.Proofs.Tryz
namespace Go.Proofs.Tryz
open Go.Ad
def D2g (s:List UInt8):List Tok × Int × Int :=
 bif decide (s.length<=4096) then (bif scB s then ([],scA s,scE s) else (scT s,0,0)) else ([],0,17)
def sqL:SP:=⟨[.list 8,.int .i64,.int .i64],dd8++[.vec 3 52]⟩
def lfL (x:List Tok × Int × Int):List Lf:=[.n x.1.length,.i x.2.1,.i x.2.2,.n x.1.length,.r (F5 x.1)]
def spTxt:SP:=⟨[.str],dd8⟩
def TSc:List Lf->Tr (SP × List Lf)
 | [.s s]=>.leaf (sqL,lfL (D2g s))
 | _=>.fail
def E1u (s:List UInt8):Option (List Lf) :=
 brK (decide ((s.length:Int) > 4096)) (some [.n 0,.i 0,.i 17,.n 0,.r (fun _=>[])]) (brK (decide (0=0/\0=0/\(0:Int)=0/\s.length<=4096)) (brK (scB s) (some [.n 0,.i (scA s),.i (scE s),.n 0,.r (fun _=>[])])
  (brK (decide ((scL s).length+1 < 2147483648/\(scL s).length=(scL s).length)) (some [.n ((scL s).length+1),.i 0,.i 0,.n ((scL s).length+1),.r (addRow (scL s).length (F5 (scL s)) [.int .i64 3,.str [],.sint .i64 s.length])]) none)) none)
theorem H0g (s:List UInt8):(C8 prog G3l 60).call 18 [.sstr s] (Bg 8) (O8 sqL 8 [])=E1u s:=by kernel_rfl
theorem G9j (s:List UInt8):(C8 prog G3e 60).call 19 [.sstr s] (Bg 8) (O8 sqL 8 [])=E1u s:=by kernel_rfl
theorem B5u (s:List UInt8):∀ (k a:Nat) (L L':List Tok),a<=s.length->L.length<=a->X7 s k a L=.inr L'->L'.length<=s.length
 | 0,a,L,L',ha,hl,h=>by cases h; omega
 | k+1,a,L,L',ha,hl,h=>by
  simp only [X7] at h
  by_cases hlt:a < s.length
  ·rw [dT hlt,cond_true] at h
   cases hb:bAt s a == 32 with
   | true=>rw [hb,cond_true] at h; exact B5u s k (a+1) L L' (by omega) (by omega) h
   | false =>
    rw [hb,cond_false] at h
    cases he:(R9 (s.drop a)).2.2 != 0 with
    | true=>rw [he,cond_true] at h; cases h
    | false =>
     rw [he,cond_false] at h
     have h0:(R9 (s.drop a)).2.2=0:=by simpa using he
     obtain ⟨q1,q2⟩:=B7s (s.drop a) (B0l hlt)
     have q2:=q2 h0
     rw [List.length_drop] at q1
     exact B5u s k _ _ L' (by omega) (by simp; omega) h
  ·rw [dF hlt,cond_false] at h; cases h; omega
theorem F5d (s:List UInt8):(scL s).length<=s.length:=by
 unfold scL
 cases h:X7 s s.length 0 [] with
 | inl x=>simp
 | inr L=>exact B5u s s.length 0 [] L (Nat.zero_le _) (Nat.le_refl _) h
theorem D9q {A:Amb} (s:List UInt8):∃ l0,E1u s=some l0/\∀ Bb:Heap,Bb.length=8->Wk A Bb ⟨sqL.rho l0,sqL.heap l0,[]⟩ ⟨sqL.rho (lfL (D2g s)),sqL.heap (lfL (D2g s)),[]⟩:=by
 have nil:∀ (a e:Int) (Bb:Heap),Bb.length=8->Wk A Bb ⟨sqL.rho [.n 0,.i a,.i e,.n 0,.r (fun _=>[])],sqL.heap [.n 0,.i a,.i e,.n 0,.r (fun _=>[])],[]⟩ ⟨sqL.rho (lfL ([],a,e)),sqL.heap (lfL ([],a,e)),[]⟩:=fun a e Bb hB =>
  Wk.obj (b:=8) (o:=.vec 0 (fun _=>[]) 3 52) (o':=.vec 0 (F5 []) 3 52) rfl (fun h=>by rw [hB] at h; omega) (fun h=>h) (fun h=>h) fun ι hh l ho=>OR.rows (fun i hi=>by omega) ho
 unfold E1u D2g
 by_cases hs:s.length<=4096
 ·rw [dF (show ¬ (s.length:Int) > 4096 by omega),dT (show 0=0/\0=0/\(0:Int)=0/\s.length<=4096 from ⟨rfl,rfl,rfl,hs⟩),dT hs]
  cases scB s with
  | true=>exact ⟨_,rfl,nil _ _⟩
  | false =>
   have hl:=F5d s
   rw [dT (show (scL s).length+1 < 2147483648/\(scL s).length=(scL s).length from ⟨by omega,rfl⟩)]
   refine ⟨_,rfl,fun Bb hB=>?_⟩
   have e:(scT s).length=(scL s).length+1:=by simp [scT]
   simp only [cond_true,cond_false,lfL]
   rw [e]
   exact Wk.addRow (b:=8) (f:=I1) (d:=I9) (L:=scL s) (x:=(3,[],(s.length:Int))) D2u rfl rfl (fun h=>by rw [hB] at h; omega)
 ·rw [dT (show (s.length:Int) > 4096 by omega),dF hs]
  exact ⟨_,rfl,nil _ _⟩
def pS:Prims:=(pT.addh 18 (G8 8 (funQ spTxt 8 [] TSc))).addh 19 (G8 8 (funQ spTxt 8 [] TSc))
theorem G6m {A:Amb} (hT:Tab A) (hG:prog.globals.size<=A.G):PrimOK prog A pS:=by
 have fr:∀ s,frP [] 0 (spTxt.heap [.s s]) (sqL.heap (lfL (D2g s))):=fun s=>⟨.inr rfl,.inr rfl,.inr rfl,.inr rfl,.inr rfl,.inr rfl,.inr rfl,.inr rfl,trivial⟩
 refine ((D9g hT hG).addl gsz func18 (by kernel_rfl) (I6 D5 D6 rfl fun ls sq l h=>?_)).addl gsz func19 (by kernel_rfl) (I6 D5 D6 rfl fun ls sq l h=>?_)
 ·unfold TSc at h
  split at h
  ·rename_i s
   cases h
   obtain ⟨l0,h1,h2⟩:=D9q (A:=A) s
   exact ⟨fr s,rfl,G3l,60,l0,F5l hT hG,(H0g s).trans h1,h2⟩
  ·cases h
 ·unfold TSc at h
  split at h
  ·rename_i s
   cases h
   obtain ⟨l0,h1,h2⟩:=D9q (A:=A) s
   exact ⟨fr s,rfl,G3e,60,l0,F5h hT hG,(G9j s).trans h1,h2⟩
  ·cases h
end Go.Proofs.Tryz
namespace Go.Proofs.Tryz
open Go.Ad
end Go.Proofs.Tryz
namespace Go.Proofs.Tryz
open Go.Ad
section
variable {n i k:Nat} {ty:Nat} {t p:Tok} {r:Nat->List AV} {s:List UInt8} {ad:AV}
end
end Go.Proofs.Tryz
namespace Go.Proofs.Tryz
open Go.Ad
def F9c:List AV->Tok
 | [a,b,c]=>(((J5 a).getD (.i64,0)).2,(sstr? b).getD [],((J5 c).getD (.i64,0)).2)
 | _=>I9
def J9 (n:Nat) (f:Nat->List AV):List Tok:=(List.range n).map fun i=>F9c (f i)
theorem A4v (L:List Tok):J9 L.length (F5 L)=L:=by
 unfold J9
 apply List.ext_getElem?
 intro i
 rw [List.getElem?_map]
 by_cases h:i < L.length
 ·rw [List.getElem?_range h,Option.map_some,List.getElem?_eq_getElem h]
  simp only [C4q,I1,F9c,J5,sstr?,Option.getD_some]
  rw [List.getD_eq_getElem?_getD,List.getElem?_eq_getElem h]; rfl
 ·rw [List.getElem?_eq_none (by simp; omega),List.getElem?_eq_none (by omega)]; rfl
def U2 (n:Nat) (f:Nat->List AV):Prop:=f=F5 (J9 n f)/\∀ t,t ∈ J9 n f->D9 t.2.1=true
theorem A8e {L:List Tok} (h:∀ t,t ∈ L->D9 t.2.1=true):U2 L.length (F5 L):=by
 unfold U2; rw [A4v]; exact ⟨rfl,h⟩
end Go.Proofs.Tryz
namespace Go.Proofs.Tryz
open Go.Ad
end Go.Proofs.Tryz
namespace Go.Proofs.Tryz
open Go.Ad
section
variable {ty n i:Nat} {t p:Tok} {f:Nat->List AV} {s:List UInt8}
end
end Go.Proofs.Tryz
namespace Go.Proofs.Tryz
open Go.Ad
theorem B3x {L:List Tok} {i:Nat} (hi:i < L.length):∃ t M,L.drop i=t :: M/\L.getD i I9=t/\L.drop (i+1)=M/\t ∈ L/\M.isEmpty=decide (i=L.length - 1):=by
 refine ⟨L[i],L.drop (i+1),List.drop_eq_getElem_cons hi,?_,rfl,List.getElem_mem hi,?_⟩
 ·rw [List.getD_eq_getElem?_getD,List.getElem?_eq_getElem hi]; rfl
 ·have hl:(L.drop (i+1)).length=L.length - (i+1):=by rw [List.length_drop]
  cases hM:L.drop (i+1) with
  | nil=>rw [hM] at hl; simp at hl; simp; omega
  | cons a b=>rw [hM] at hl; simp at hl; simp; omega
section
variable {A:Amb} (hT:Tab A) (hG:prog.globals.size<=A.G)
include hT hG
end
end Go.Proofs.Tryz
namespace Go.Proofs.Tryz
open Go.Ad
end Go.Proofs.Tryz
namespace Go.Proofs.Tryz
open Go.Ad
end Go.Proofs.Tryz
