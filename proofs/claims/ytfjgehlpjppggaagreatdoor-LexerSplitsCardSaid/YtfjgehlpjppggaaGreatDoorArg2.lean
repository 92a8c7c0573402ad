/- The lexer's laws: a list of tokens among the arguments. -/
import Derived.Test.YtfjgehlpjppggaaGreatDoorE1
import Derived.Test.YtfjgehlpjppggaaGreatDoorScanT
import Derived.Test.YtfjgehlpjppggaaGreatDoorAdPat
import Derived.Deep.Slices
import Derived.Test.YtfjgehlpjppggaaGreatDoorBase
import Derived.Test.YtfjgehlpjppggaaGreatDoorPt9
noncomputable section
namespace Go.Proofs.Tryz
open Go.Ad Go.Deep Go.ChangeShapes
set_option maxRecDepth 100000 in
theorem C4c {H:Type} {enc:TypeId × Value->H} {W:World} {b0:Nat} {v:Value} {d:DataW H} {ps:List MemPlace} (hval:Value.okWide prog W .any b0 27 v) (h:DataW.Trod enc prog W 0 (fun _=>true) true 27 v d ps)
  (hw:(d.weights prog 27).all (·<=reachBytes)=true) :
  (∃ (L:List Tok) (l:Option Ad.Loc),VR (A0b 8 l) (.sslice 8 0 L.length) v/\(∀ l',l=some l'->l'.c < W.heap.size/\OR (A0b 8 l) W.heap l' (.vec L.length (F5 L) 3 roT))/\∀ t,t ∈ L->D9 t.2.1=true) \/
  ∃ l:Ad.Loc,VR (A0b 8 (some l)) (.slice (some (8,0)) 0 0) v/\l.c < W.heap.size:=by
 obtain ⟨a0,len0,cap0,rfl⟩:=Go.WideShapes.okWide_slice underlying27 hval
 obtain ⟨fuel,hf⟩:=h
 rcases open_slice underlying27 hf with ⟨hc,_⟩ | ⟨a,len,cap,m,n,D,Pl,hc,hb,hl,hm,hmm,hx,hel⟩
 ·left
  simp [Value.cells] at hc
  obtain ⟨rfl,rfl,rfl⟩:=hc
  exact ⟨[],none,by simp [VR],fun l' h=>by (cases h),fun t h=>by (cases h)⟩
 simp [Value.cells] at hc
 obtain ⟨rfl,rfl,rfl⟩:=hc
 rw [if_pos rfl] at hmm
 subst hmm
 obtain ⟨hd1,hd2⟩:=Prod.mk.inj hx
 subst hd1
 have hok:Cell.ok prog W .any b0 27 (.slice (some a) len0 m):=by
  simpa only [Value.okWide,Cell.okWide,underlying27] using hval
 simp only [Cell.ok,underlying27] at hok
 obtain ⟨_,_,_,hspot,row,cells,hsh,_⟩:=hok
 obtain ⟨c,off,spot⟩:=a
 simp only at hspot
 subst hspot
 have hcell:∃ arr e fz,W.heap[c]?=some (.cells arr e fz):=by
  unfold World.shape? at hsh
  split at hsh
  ·rename_i arr e fz hq; exact ⟨arr,e,fz,hq⟩
  ·cases hsh
 obtain ⟨arr,e,fz,hh⟩:=hcell
 have hlt:c < W.heap.size:=(Array.getElem?_eq_some_iff.1 hh).1
 by_cases h0:len0=0
 ·right
  subst h0
  refine ⟨⟨c,off,off+m*3,3⟩,?_,hlt⟩
  simp only [VR]
  exact ⟨⟨c,off,off+m*3,3⟩,m,off,by simp [A0b],Nat.le_refl _,Nat.zero_le _,by simp,Nat.le_refl _,Nat.le_refl _,rfl⟩
 left
 have hq0:∀ k,W.cell? ⟨c,k,none⟩=arr[k]?:=fun k=>by simp [World.cell?,hh]
 have each:∀ i,i < m->∃ q:Tok,arr[off+(i*3+0)]?=some (.int .i64 q.1)/\(∃ b:ByteArray,b.data.toList=q.2.1/\arr[off+(i*3+1)]?=some (.string b))/\arr[off+(i*3+2)]?=some (.int .i64 q.2.2) /\
   D i=.agg [.lit (.int .i64 q.1),.lit (.string q.2.1),.lit (.int .i64 q.2.2)]:=by
  intro i hi
  obtain ⟨cs',h1,h2⟩:=hel i hi
  rw [show prog.cellsOf 52=3 by kernel_rfl] at h1
  obtain ⟨_,hlen,hce⟩:=World.cells?_some h1
  obtain ⟨xs,k,hk,hxy,_,hxl,hfd⟩:=DataW.trod_struct underlying52 h2
  match xs,hxl,cs',hlen with
  | [y0,y1,y2],_,[v0,v1,v2],_ =>
   have g0:=hfd 0 _ rfl
   have g1:=hfd 1 _ rfl
   have g2:=hfd 2 _ rfl
   simp [show prog.cellsOf 3=1 by kernel_rfl,show prog.cellsOf 9=1 by kernel_rfl] at g0 g1 g2
   obtain ⟨n0,q0,rfl,_⟩:=DataW.trod_int underlying3 g0
   obtain ⟨b1,q1,rfl,_⟩:=DataW.trod_string underlying9 g1
   obtain ⟨n2,q2,rfl,_⟩:=DataW.trod_int underlying3 g2
   simp at q0 q1 q2
   subst q0 q1 q2
   have e0:=hce 0 (by omega)
   have e1:=hce 1 (by omega)
   have e2:=hce 2 (by omega)
   rw [Go.WideShapes.add_plain,Go.WideShapes.add_plain,hq0] at e0 e1 e2
   simp at e0 e1 e2
   refine ⟨(n0,b1.data.toList,n2),by simpa [Nat.add_assoc] using e0,⟨b1,rfl,by simpa [Nat.add_assoc] using e1⟩,by simpa [Nat.add_assoc] using e2,?_⟩
   simpa using (Prod.mk.inj hxy).1
 obtain ⟨q,hq⟩:=choose_lt each
 obtain ⟨L,hL⟩:∃ L,L=(List.range len0).map q:=⟨_,rfl⟩
 have hlen:L.length=len0:=by simp [hL]
 have hget:∀ i,i < len0->L.getD i (0,[],0)=q i:=fun i hi=>by simp [hL,List.getD,hi]
 have hfit:off+m*3<=arr.size:=by
  have hm0:0 < m:=by omega
  obtain ⟨_,_,e2,_⟩:=hq (m - 1) (by omega)
  have:=(Array.getElem?_eq_some_iff.1 e2).1
  omega
 refine ⟨L,some ⟨c,off,arr.size,3⟩,?_,fun l' hl'=>?_,fun t ht=>?_⟩
 ·simp only [VR]
  exact .inl ⟨by omega,⟨c,off,arr.size,3⟩,m,by simp [A0b],by omega,by simpa using hfit,by simp [hlen]⟩
 ·cases hl'
  refine ⟨hlt,OR.ofCells (by omega) (fun i hi=>?_) hh rfl (by omega) fun i j a hi hj=>?_⟩
  ·exact ⟨rfl,rfl⟩
  ·rw [hlen] at hi
   have e:F5 L i=[.sint .i64 (q i).1,.sstr (q i).2.1,.sint .i64 (q i).2.2]:=by
    rw [<- hget i hi]; rfl
   rw [e] at hj
   obtain ⟨e0,⟨b,hb1,e1⟩,e2,_⟩:=hq i (by omega)
   match j,hj with
   | 0,hj=>cases hj; exact ⟨_,e0,by simp [VR]⟩
   | 1,hj=>cases hj; exact ⟨_,e1,by simp only [VR]; exact ⟨b,hb1,rfl⟩⟩
   | 2,hj=>cases hj; exact ⟨_,e2,by simp [VR]⟩
 ·rw [hL] at ht
  obtain ⟨i,hi,rfl⟩:=List.mem_map.1 ht
  have hi':i < len0:=List.mem_range.1 hi
  obtain ⟨_,_,_,e3⟩:=hq i (by omega)
  simp only [DataW.weights,underlying27,List.all_cons,List.all_append,Bool.and_eq_true] at hw
  have key:∀ (l:List (DataW H)),(DataW.weightsAll prog 52 l).all (·<=reachBytes)=true->∀ y,y ∈ l->(y.weights prog 52).all (·<=reachBytes)=true:=by
   intro l
   induction l with
   | nil=>intro _ y hy; cases hy
   | cons z r ih =>
    intro h y hy
    simp only [DataW.weightsAll,List.all_append,Bool.and_eq_true] at h
    rcases List.mem_cons.1 hy with rfl | hy
    ·exact h.1
    ·exact ih h.2 y hy
  have:=key _ hw.2.1 (D i) (List.mem_map.2 ⟨i,hi,rfl⟩)
  rw [e3] at this
  simp [DataW.weights,underlying52,DataW.weightsEach] at this
  exact dT (by unfold reachBytes at this; omega)
end Go.Proofs.Tryz
namespace Go.Proofs.Tryz
open Go.Ad Go.Deep Go.ChangeShapes
theorem F3r {P:Program} {fits:TypeId->Bool} {d:Nat} {e:TypeId} {count off n:Nat} (h:rowAt P fits d e count off n=true):off<=count*P.cellsOf e:=by
 cases d with
 | zero=>simp [rowAt] at h
 | succ d =>
  simp only [rowAt] at h
  split at h
  ·cases h
  rename_i hs
  have hdm:=Nat.div_add_mod off (P.cellsOf e)
  have hmul:P.cellsOf e*(off / P.cellsOf e)=off / P.cellsOf e*P.cellsOf e:=Nat.mul_comm ..
  rw [Bool.or_eq_true] at h
  rcases h with h | h
  ·simp only [Bool.and_eq_true,beq_iff_eq,decide_eq_true_eq] at h
   obtain ⟨⟨h1,h2⟩,_⟩:=h
   have:=Nat.mul_le_mul_right (P.cellsOf e) (show off / P.cellsOf e<=count by omega)
   omega
  ·simp only [Bool.and_eq_true,decide_eq_true_eq] at h
   have:=Nat.mul_le_mul_right (P.cellsOf e) (show off / P.cellsOf e+1<=count by omega)
   have hlt:=Nat.mod_lt off (Nat.pos_of_ne_zero hs)
   rw [Nat.add_mul,Nat.one_mul] at this
   omega
theorem F6p {e:TypeId} {count off n:Nat} (h:liesAt prog prog.depth e count off 52 n=true):off<=count*prog.cellsOf e:=by
 have hd:∃ d,prog.depth=d+1:=⟨2*(prog.types.size+Made.depth)+1,by simp [Program.depth]⟩
 obtain ⟨d,hd⟩:=hd
 unfold liesAt at h
 rw [hd] at h
 simp only [underlying52,Bool.or_false] at h
 exact F3r h
set_option maxRecDepth 100000 in
theorem open_toks2 {H:Type} {enc:TypeId × Value->H} {W:World} {b0:Nat} {v:Value} {d:DataW H} {ps:List MemPlace} (hval:Value.okWide prog W .any b0 27 v) (h:DataW.Trod enc prog W 0 (fun _=>true) true 27 v d ps)
  (hw:(d.weights prog 27).all (·<=reachBytes)=true) :
  (∃ (L:List Tok) (l:Option Ad.Loc),VR (A0b 8 l) (.sslice 8 0 L.length) v/\(∀ l',l=some l'->l'.c < W.heap.size/\OR (A0b 8 l) W.heap l' (.vec L.length (F5 L) 3 roT))/\∀ t,t ∈ L->D9 t.2.1=true) \/
  ∃ l:Ad.Loc,VR (A0b 8 (some l)) (.aslc 8 0 0) v/\l.c < W.heap.size/\OR (A0b 8 (some l)) W.heap l (.vec 0 (F5 []) 3 roT):=by
 rcases C4c hval h hw with h1 | _
 ·exact .inl h1
 obtain ⟨a0,len0,cap0,rfl⟩:=Go.WideShapes.okWide_slice underlying27 hval
 obtain ⟨fuel,hf⟩:=h
 rcases open_slice underlying27 hf with ⟨hc,_⟩ | ⟨a,len,cap,m,n,D,Pl,hc,hb,hl,hm,hmm,hx,hel⟩
 ·left
  simp [Value.cells] at hc
  obtain ⟨rfl,rfl,rfl⟩:=hc
  exact ⟨[],none,by simp [VR],fun l' h=>by (cases h),fun t h=>by (cases h)⟩
 by_cases h0:len0 ≠ 0
 ·rcases C4c hval ⟨fuel,hf⟩ hw with h1 | ⟨l,h1,_⟩
  ·exact .inl h1
  ·simp only [VR] at h1
   obtain ⟨_,_,_,_,_,_,_,_,_,h7⟩:=h1
   simp at h7
   exact absurd h7.2.1 h0
 right
 have h0:len0=0:=by omega
 subst h0
 simp [Value.cells] at hc
 obtain ⟨rfl,rfl,rfl⟩:=hc
 rw [if_pos rfl] at hmm
 subst hmm
 have hok:Cell.ok prog W .any b0 27 (.slice (some a) 0 m):=by
  simpa only [Value.okWide,Cell.okWide,underlying27] using hval
 simp only [Cell.ok,underlying27] at hok
 obtain ⟨_,_,_,hspot,row,cells,hsh,hlies⟩:=hok
 have hoff:=F6p hlies
 have hdv:=Nat.div_mul_le_self cells (prog.cellsOf row)
 obtain ⟨c,off,spot⟩:=a
 simp only at hspot hoff
 subst hspot
 have hcell:∃ arr e fz,W.heap[c]?=some (.cells arr e fz)/\arr.size=cells:=by
  unfold World.shape? at hsh
  split at hsh
  ·rename_i arr e fz hq
   simp only [sI,pI] at hsh
   exact ⟨arr,e,fz,hq,hsh.2⟩
  ·cases hsh
 obtain ⟨arr,e,fz,hh,hsz⟩:=hcell
 have hlt:c < W.heap.size:=(Array.getElem?_eq_some_iff.1 hh).1
 have hq0:∀ k,W.cell? ⟨c,k,none⟩=arr[k]?:=fun k=>by simp [World.cell?,hh]
 have hfit:off+m*3<=arr.size:=by
  by_cases hm0:m=0
  ·subst hm0; omega
  obtain ⟨cs',h1,_⟩:=hel (m - 1) (by omega)
  rw [show prog.cellsOf 52=3 by kernel_rfl] at h1
  obtain ⟨_,hlen,hce⟩:=World.cells?_some h1
  have e2:=hce 2 (by omega)
  rw [Go.WideShapes.add_plain,Go.WideShapes.add_plain,hq0] at e2
  have h3:∃ x,cs'[2]?=some x:=⟨_,List.getElem?_eq_getElem (by omega)⟩
  obtain ⟨x,h3⟩:=h3
  rw [h3] at e2
  have:=(Array.getElem?_eq_some_iff.1 e2).1
  omega
 refine ⟨⟨c,off,arr.size,3⟩,?_,hlt,OR.ofCells (by omega) (fun i hi=>by omega) hh rfl (by omega) fun i j a hi hj=>by omega⟩
 simp only [VR]
 exact ⟨⟨c,off,arr.size,3⟩,m,off,by simp [A0b],Nat.le_refl _,Nat.zero_le _,by simp,Nat.le_refl _,by simpa using hfit,rfl⟩
end Go.Proofs.Tryz
namespace Go.Proofs.Tryz
open Go.Ad
theorem tab_laid {W:World} {a b:String × DataW Unit} {r:List (String × DataW Unit)} (h:laidMet prog (a :: b :: ("internal/strconv.uint64pow10",Lib.tabData .u64 Lib.pow10Tab) :: r) W) :
  Lib.TabIs prog W "internal/strconv.uint64pow10" .u64 Lib.pow10Tab :=
 Lib.tabIs_of_head (g:=5) (t:=228) (e:=169) (n:=20) (by kernel_rfl) (by kernel_rfl) (by kernel_rfl) (by kernel_rfl) (by kernel_rfl) (by kernel_rfl) (B0x (B0x h))
end Go.Proofs.Tryz
namespace Go.Proofs.Tryz
open Go.Ad
abbrev F8r (D:List (List Tok)):Option Unit:=brK (A9 (D.length=D.length/\N9 D=N9 D/\(D.length:Int)=(D.length:Int)/\(0:Int)=0/\∃ D',D.length=D'.length/\N9 D=N9 D'/\B8u D'/\D'.length<=5000)) (some ()) none
abbrev E1g (p:List (List Tok) × Int):Option Unit:=brK ((p.1.length:Int) != (p.1.length:Int)) none (brK (p.2 != p.2) none (F8r p.1))
abbrev E1d (s:List UInt8) (a:Int) (n:Nat) (f:Nat->List AV) (L:List Tok):Option Unit :=
 brK (decide ((s.length:Int) > 20)) (some ()) (brK (A9 (n=n/\U2 n f/\n<=10000)) (brK (A9 (n=n/\U2 n f/\n<=10000)) (brK (!((A4y L a).1 == (A4y L a).1)) none (brK ((A4y L a).2.1 != (A4y L a).2.1) none (brK ((A4y L a).2.2 != (A4y L a).2.2) none
  (brK (A9 (n=n/\U2 n f)) (brK (A9 (n=n/\U2 n f)) (E1g (A2n s L)) none) none)))) none) none)
abbrev H1p:Prims:=B4l (pSi.addb 10 0 D6y)
abbrev H1k:Prims:=B4l (pS0.addb 10 0 D6y)
theorem D4t (s:List UInt8) (a:Int) (n:Nat) (f:Nat->List AV):(C8 prog H1p 60).call 10 [.sslice 8 0 n,.sint .i64 a,.sstr s] (Bg 8++[.vec n f 3 roT]) C9n =
  brK (decide ((n:Int)<=100)) (E1d s a n f (J9 n f)) (brK (decide ((n:Int) > 4097)) (brK (!decide ((n:Int)<=8192)) (some ()) (E1d s a n f (J9 n f))) (some ())):=by kernel_rfl
abbrev C4i (s:List UInt8):Option Unit:=brK (A9 (0=0/\0=0/\F5 []=F5 [])) (brK (A9 (0=0/\0=0/\F5 []=F5 [])) (E1g (A2n s [])) none) none
theorem D3l (s:List UInt8) (a:Int):(C8 prog H1k 60).call 10 [.aslc 8 0 0,.sint .i64 a,.sstr s] (Bg 8++[.vec 0 (F5 []) 3 roT]) C9n =
  brK (decide ((s.length:Int) > 20)) (some ()) (brK (decide (a < 0)) (brK (decide (a < 0)) (C4i s) (brK (decide (a >= (0:Int))) (C4i s) (brK (decide (0<=a/\a < (0:Int))) none none)))
   (brK (decide (a >= (0:Int))) (brK (decide (a < 0)) (C4i s) (brK (decide (a >= (0:Int))) (C4i s) (brK (decide (0<=a/\a < (0:Int))) none none))) (brK (decide (0<=a/\a < (0:Int))) none none))):=by kernel_rfl
theorem B6r {s:List UInt8}:∀ {M:List Tok} {D D':List (List Tok)} {C C':List Tok} {O O':RO} {k:Nat},P8 s M (D,C,O)=some (D',C',O')->(∀ X,X ∈ D->X.length<=k)->C.length<=k ->
  (∀ X,X ∈ D'->X.length<=k+M.length)/\C'.length<=k+M.length/\D'.length<=D.length+M.length
 | [],D,D',C,C',O,O',k,h,h1,h2=>by cases h; exact ⟨fun X hX=>h1 X hX,h2,Nat.le_refl _⟩
 | t :: M,D,D',C,C',O,O',k,h,h1,h2=>by
  simp only [P8] at h
  cases h3:A8x s t (D,C,O) with
  | none=>rw [h3] at h; cases h
  | some y =>
   obtain ⟨D2,C2,O2⟩:=y
   rw [h3] at h
   have key:(∀ X,X ∈ D2->X.length<=k)/\C2.length<=k+1/\D2.length<=D.length+1:=by
    unfold A8x at h3
    simp only at h3
    cases g1:decide (A6t O=0) && isS t s with
    | true =>
     rw [g1] at h3; cases h3
     refine ⟨fun X hX=>?_,by simp,by simp⟩
     rcases List.mem_append.1 hX with q | q
     ·exact h1 X q
     ·rw [List.mem_singleton.1 q]; exact h2
    | false =>
     rw [g1,cond_false] at h3
     cases g2:isS t [40] with
     | true=>rw [g2] at h3; cases h3; exact ⟨h1,by simp; omega,by omega⟩
     | false =>
      rw [g2,cond_false] at h3
      cases g3:isS t [91] with
      | true=>rw [g3] at h3; cases h3; exact ⟨h1,by simp; omega,by omega⟩
      | false =>
       rw [g3,cond_false] at h3
       cases g4:isS t [41] || isS t [93] with
       | true =>
        rw [g4,cond_true] at h3
        cases g5:decide (A6t O=0) with
        | true=>rw [g5] at h3; cases h3
        | false =>
         rw [g5,cond_false] at h3
         cases g6:E4m O == t.2.1 with
         | true=>rw [g6] at h3; cases h3; exact ⟨h1,by simp; omega,by omega⟩
         | false=>rw [g6] at h3; cases h3
       | false=>rw [g4] at h3; cases h3; exact ⟨h1,by simp; omega,by omega⟩
   obtain ⟨k1,k2,k3⟩:=key
   obtain ⟨q1,q2,q3⟩:=B6r (k:=k+1) h (fun X hX=>Nat.le_succ_of_le (k1 X hX)) k2
   simp only [List.length_cons]
   exact ⟨fun X hX=>by have:=q1 X hX; omega,by omega,by omega⟩
theorem D5r (s:List UInt8) (L:List Tok):B8u (A2n s L).1/\(A2n s L).1.length<=5000:=by
 have nil:B8u []/\([]:List (List Tok)).length<=5000:=⟨fun i=>by simp,by simp⟩
 unfold A2n
 by_cases hn:L.length<=4097
 ·rw [dT hn,cond_true]
  cases D5j s with
  | false=>exact nil
  | true =>
   rw [cond_true]
   cases hp:P8 s (D2b L) U7 with
   | none=>exact nil
   | some y =>
    obtain ⟨D,C,O⟩:=y
    have hl:(D2b L).length<=4097:=by
     unfold D2b
     cases decide (0 < L.length) && (L.getD (L.length - 1) I9).1 == 3
     ·exact hn
     ·rw [cond_true,List.length_take]; omega
    obtain ⟨q1,q2,q3⟩:=B6r (k:=0) hp (fun X hX=>by cases hX) (Nat.le_refl _)
    unfold C2g
    simp only
    cases decide (A6t O=0) with
    | false=>exact nil
    | true =>
     refine ⟨fun i=>?_,by simp only [cond_true,List.length_append,List.length_singleton]; simp at q3; omega⟩
     simp only [cond_true]
     rw [List.getD_eq_getElem?_getD]
     cases hg:(D++[C])[i]? with
     | none=>simp
     | some X =>
      have:=List.mem_of_getElem? hg
      rcases List.mem_append.1 this with q | q
      ·have:=q1 X q; simp only [Option.getD_some]; omega
      ·rw [List.mem_singleton.1 q]; simp only [Option.getD_some]; omega
 ·rw [dF hn]; exact nil
theorem D0s (s:List UInt8) (L:List Tok):E1g (A2n s L)=some ():=by
 obtain ⟨h1,h2⟩:=D5r s L
 unfold E1g F8r
 rw [A8 (show _ from ⟨rfl,rfl,rfl,rfl,(A2n s L).1,rfl,rfl,h1,h2⟩),bne_self_eq_false,bne_self_eq_false]; rfl
theorem C9l {L:List Tok} (s:List UInt8) (a:Int) (hz:∀ t,t ∈ L->D9 t.2.1=true) (hL:L.length<=10000):E1d s a L.length (F5 L) L=some ():=by
 have h3:=A8e hz
 unfold E1d
 rw [A8 (show _ from ⟨rfl,h3,hL⟩),A8 (show _ from ⟨rfl,h3⟩),D0s]
 simp only [bne_self_eq_false,beq_self_eq_true,Bool.not_true]
 cases decide ((s.length:Int) > 20) <;> rfl
theorem lexerSplits {v:Value} (a:Int) (b:ByteArray) (W:World) (hG:prog.globals.size<=W.heap.size) (hT:Tab (ambOf W))
  (hv:(∃ (L:List Tok) (l:Option Ad.Loc),VR (A0b 8 l) (.sslice 8 0 L.length) v/\(∀ l',l=some l'->l'.c < W.heap.size/\OR (A0b 8 l) W.heap l' (.vec L.length (F5 L) 3 roT))/\∀ t,t ∈ L->D9 t.2.1=true) \/
   ∃ l:Ad.Loc,VR (A0b 8 (some l)) (.aslc 8 0 0) v/\l.c < W.heap.size/\OR (A0b 8 (some l)) W.heap l (.vec 0 (F5 []) 3 roT)) :
  Calls prog 10 #[v,.int .i64 a,.string b] W fun e W'=>e=.returned (.bool true)/\RowKit.Below W.heap.size W W':=by
 rcases hv with ⟨L,l,h1,h2,h3⟩ | ⟨l,h1,h2,h4⟩
 ·refine B3s (l:=l) (args:=[.sslice 8 0 L.length,.sint .i64 a,.sstr b.data.toList]) (o:=.vec L.length (F5 L) 3 roT) (n:=60) D5 D6 (B4f hT hG (C4v (.inl rfl) (G3d hT hG))) hG ?_ rfl (fun l' hl=>by rw [gsz]; exact h2 l' hl) _ ?_
  ·rw [gsz,D4t,A4v]
   generalize b.data.toList=s
   by_cases g1:L.length<=100
   ·rw [dT (show (L.length:Int)<=100 by omega),C9l s a h3 (by omega)]; rfl
   ·rw [dF (show ¬ (L.length:Int)<=100 by omega)]
    by_cases g2:L.length<=4097
    ·rw [dF (show ¬ (L.length:Int) > 4097 by omega)]; rfl
    ·rw [dT (show (L.length:Int) > 4097 by omega)]
     by_cases g3:L.length<=8192
     ·rw [dT (show (L.length:Int)<=8192 by omega),C9l s a h3 (by omega)]; rfl
     ·rw [dF (show ¬ (L.length:Int)<=8192 by omega)]; rfl
  ·rw [gsz]
   simp only [VRL]
   exact ⟨_,_,rfl,h1,_,_,rfl,by simp only [VR],_,_,rfl,by simp only [VR]; exact ⟨b,rfl,rfl⟩,rfl⟩
 ·refine B3s (l:=some l) (args:=[.aslc 8 0 0,.sint .i64 a,.sstr b.data.toList]) (o:=.vec 0 (F5 []) 3 roT) (n:=60) D5 D6 (B4f hT hG (C4v (.inr rfl) (G5m hT hG))) hG ?_ rfl (fun l' hl=>by cases hl; rw [gsz]; exact ⟨h2,h4⟩) _ ?_
  ·rw [gsz,D3l]
   have hz:∀ s,C4i s=some ():=fun s=>by
    unfold C4i
    rw [A8 (show _ from ⟨rfl,rfl,rfl⟩),D0s]; rfl
   rw [hz]
   by_cases g:a < 0
   ·rw [dT g]
    cases decide ((b.data.toList.length:Int) > 20) <;> rfl
   ·rw [dF g,dT (show a >= (0:Int) by omega)]
    cases decide ((b.data.toList.length:Int) > 20) <;> rfl
  ·rw [gsz]
   simp only [VRL]
   exact ⟨_,_,rfl,h1,_,_,rfl,by simp only [VR],_,_,rfl,by simp only [VR]; exact ⟨b,rfl,rfl⟩,rfl⟩
end Go.Proofs.Tryz
