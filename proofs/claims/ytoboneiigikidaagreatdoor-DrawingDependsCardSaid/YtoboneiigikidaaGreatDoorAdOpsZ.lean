/- Lists that never change: the operations on them stand for the model's. -/
import Derived.Test.YtoboneiigikidaaGreatDoorAdOpsB
import Derived.Test.YtoboneiigikidaaGreatDoorAdOpsA
namespace Go.Ad
section
variable {P:Program} {A:Amb} {Z:Emb} {B:Heap} {w:World}
theorem C4u(hs:Sim A Z B w.heap){t:TypeId}{cs:List FV}{j:Nat}{v:AV}{x:Value}(h:C4t P t cs j=some v)(hx:VR Z (.fptr cs j) x):Pure P w Z (Instr.loadAt t x) v:=by
 simp only[VR] at hx
 obtain⟨c,off,vs,h1,rfl,h2,h3⟩:=hx
 obtain⟨arr,e,z,g1,g2⟩:=hs.fzOK c vs h1
 have hcell:∀ (i:Nat) (a:FV),cs[i]?=some a->∃ y,w.cell? ⟨c,off+i,none⟩=some y/\FVR Z.fz a y:=fun i a hi=>by
  obtain⟨y,q1,q2⟩:=h3.get hi
  rw[tK] at q1
  split at q1
  ·rw[dP] at q1
   exact⟨y,by rw[cell_of g1]; exact g2 _ _ q1,q2⟩
  ·cases q1
 unfold C4t at h
 split at h
 ·cases h
 ·rename_i d hd
  unfold Pure
  simp only[Instr.loadAt,Instr.sureAddr,Sem.run_bind,Sem.run_pure,rK,loadVar,B3u hd]
  split at h
  ·rename_i hag
   split at h
   ·rename_i k hk
    split at h
    ·rename_i hjk
     cases h
     have hsz:∀ i,i<k->off+j+i<arr.size:=fun i hi=>by
      obtain⟨y,q1,_⟩:=hcell (j+i) _ (gE (by omega))
      rw[cell_of g1] at q1
      have:=(gA.1 q1).1
      omega
     have hrun:=run_loadCells (P:=P) w ⟨c,off+j,none⟩ k (fun i=>arr.getD (off+j+i) undef) (fun i hi=>by
      rw[M9,cell_of g1]
      have:=hsz i hi
      simp[aE this])
     simp only[hag,if_true,Sem.run_bind,A2u hk,rK,hrun,Sem.run_pure]
     refine⟨_,rfl,?_⟩
     simp only[VR]
     refine⟨_,rfl,.of_get (by simp; omega) fun i x hi=>?_⟩
     rw[List.getElem?_map,oM] at hi
     obtain⟨a,q1,rfl⟩:=hi
     rw[tK] at q1
     split at q1
     ·rename_i hik
      rw[dP] at q1
      obtain⟨y,r1,r2⟩:=hcell _ _ q1
      rw[cell_of g1] at r1
      refine⟨y,?_,FV.av_VR r2⟩
      rw[<- Nat.add_assoc] at r1
      simp[List.getElem?_range hik,r1]
     ·cases q1
    ·cases h
   ·cases h
  ·rename_i hag
   simp only[oM] at h
   obtain⟨a,q1,rfl⟩:=h
   obtain⟨y,r1,r2⟩:=hcell _ _ q1
   simp only[hag,Bool.false_eq_true,if_false,B0e r1]
   exact⟨_,rfl,FV.av_VR r2⟩
theorem C1l{t e:TypeId}{n es l h:Nat}{row row':Nat->List FV}{x:Value}{lo hi:Option AV}{lo' hi':Option Value}(hu:P.underlying t=some (.slice e))(hk:size? P e=some es)(hb:A1r n lo hi=some (true,l,h))(hrow:∀ i,row' i=row (l+i))(hx:VR Z (.flist n row es) x)(h1:VRo Z lo lo')(h2:VRo Z hi hi'):Pure P w Z (Instr.sliceAt t x lo' hi' none) (.flist (h-l) row' es):=by
 have hab:=A0t hb
 simp only[VR,FVR] at hx
 rcases hx with⟨rfl,rfl | ⟨a,cap,rfl⟩⟩ | ⟨h0,c,off,cap,cs,g1,g2,rfl,g4,g5⟩
 ·obtain⟨M',r1,r2,r3,r4,r5,r6⟩:=P6 (P:=P) (w:=w) (sl:=true) hab (lR _) (lR _) h1.cnI h2.cnI (mx:=none) (mx':=none) trivial
  have e1:h-l=0:=by omega
  have e2:M'-l=0:=by omega
  refine⟨.slice none 0 0,?_,by simp[VR,FVR,e1]⟩
  simp only[Instr.sliceAt,Sem.run_bind,und hu,rK,Instr.slice,r1,A2u hk,Sem.run_pure,e1,e2]
  simp
 ·obtain⟨M',r1,r2,r3,r4,r5,r6⟩:=P6 (P:=P) (w:=w) (sl:=true) hab (lR _) (Nat.zero_le cap) h1.cnI h2.cnI (mx:=none) (mx':=none) trivial
  have e1:h-l=0:=by omega
  have e2:l=0:=by omega
  subst e2
  have e3:h=0:=by omega
  subst e3
  refine⟨.slice (some (if M'=0 then a else a.add (0*es))) 0 (M'-0),?_,by simp only[VR,FVR,Nat.sub_self]; exact .inl ⟨trivial,.inr ⟨_,_,rfl⟩⟩⟩
  simp only[Instr.sliceAt,Sem.run_bind,und hu,rK,Instr.slice,r1,A2u hk,Sem.run_pure,oS]
  congr 2
  split<;>rfl
 ·obtain⟨M',r1,r2,r3,r4,r5,r6⟩:=P6 (P:=P) (w:=w) (sl:=true) hab (lR _) g2 h1.cnI h2.cnI (mx:=none) (mx':=none) trivial
  refine⟨.slice (some ⟨c,if M'=l then off else off+l*es,none⟩) (h-l) (M'-l),?_,?_⟩
  ·simp only[Instr.sliceAt,Sem.run_bind,und hu,rK,Instr.slice,r1,A2u hk,Sem.run_pure,oS,M9]
   congr 2
   split<;>rfl
  ·simp only[VR,FVR]
   by_cases e1:h-l=0
   ·rw[e1]; exact .inl ⟨rfl,.inr ⟨_,_,rfl⟩⟩
   ·rw[if_neg (by omega)]
    have hle:(l+(h-l))*es<=n*es:=Nat.mul_le_mul_right es (by omega)
    rw[Nat.add_mul] at hle
    refine .inr ⟨by omega,c,off+l*es,M'-l,cs,g1,by omega,rfl,by omega,fun i hi=>?_⟩
    rw[hrow i,show off+l*es+i*es=off+(l+i)*es by rw[Nat.add_mul,Nat.add_assoc]]
    exact g5 (l+i) (by omega)
theorem E2k{o:Oper}{U:Operand->AV}{U':Operand->Value}{v:AV}(h:afz P U o.op=some (true,v))(hs:Sim A Z B w.heap)(hd:Dom Z B.length)(hU:∀ x,VR Z (U x) (U' x)):Got P A Z B w (execOp U' o) v B []:=by
 obtain⟨dst,op,ty,pos,after,guard⟩:=o
 cases op with
 | load t a =>
  simp only[afz] at h
  split at h
  ·rename_i cs j ha
   simp only[oM,pI,true_and] at h
   obtain⟨v',h1,rfl⟩:=h
   have hx:=hU a
   rw[ha] at hx
   exact F4 (s:=Instr.loadAt t (U' a)) hs hd (rfl:only B (some v')=_) fun v hv=>by cases hv; exact C4u hs h1 hx
  ·cases h
 | fieldAddr t x f =>
  simp only[afz] at h
  split at h
  ·rename_i cs j hxv
   split at h
   ·rename_i fs hu
    split at h
    ·rename_i fd hf
     split at h
     ·rename_i n hn
      split at h
      ·cases h
      ·rename_i hn0
       simp only[sI,pI,true_and] at h
       subst h
       have hx:=hU x
       rw[hxv] at hx
       simp only[VR] at hx
       obtain⟨c,off,vs,h1,hxe,h2,h3⟩:=hx
       refine F4 (s:=Instr.fieldAt t (U' x) f) hs hd (rfl:only B (some (.fptr cs (j+fd.offset)))=_) fun v hv=>?_
       cases hv
       refine⟨_,?_,by simp only[VR]; exact⟨c,off,vs,h1,rfl,h2,h3⟩⟩
       rw[hxe]
       simp only[Instr.fieldAt,Sem.run_bind,und hu,rK,hf,Instr.sureAddr,Sem.run_pure,fieldPlace,A2u hn,if_neg hn0,M9,Nat.add_assoc]
     ·cases h
    ·cases h
   ·cases h
  ·cases h
 | nilCheck x =>
  simp only[afz] at h
  split at h
  ·rename_i cs j hxv
   simp only[sI,pI,true_and] at h
   subst h
   have hx:=hU x
   rw[hxv] at hx
   have hx':=hx
   simp only[VR] at hx'
   obtain⟨c,off,vs,_,hxe,_⟩:=hx'
   refine⟨Z,U' x,.value (U' x),w,?_,.inl rfl,.refl _ _ _,hx,hs,lR _,hd⟩
   show(match U' x with
    | .pointer none | .nilIface | .nilFunc=>runtimePanic .nilDeref
    | .func (.method name) first captured=>_
    | x=>pure (.value x):Sem Next).run P w=_
   rw[hxe]; rfl
  ·cases h
 | indexAddr t x i =>
  simp only[afz] at h
  split at h
  ·rename_i n row es hxv
   split at h
   ·rename_i e k m hu hm
    split at h
    ·rename_i hes
     simp only[sI,pI,dQ] at h
     obtain⟨hin,rfl⟩:=h
     have hx:=hU x
     rw[hxv] at hx
     simp only[VR,FVR] at hx
     have hi:U' i=.int k m:=K3 hm (hU i)
     rcases hx with⟨h0,_⟩ | ⟨h0,c,off,cap,cs,h1,h2,hxe,h4,h5⟩
     ·omega
     have hmn:m.toNat<n:=by omega
     have hle:m.toNat*es+es<=n*es:=by rw[<- Nat.succ_mul]; exact Nat.mul_le_mul_right es hmn
     have hrow:=h5 _ hmn
     have hlen:(row m.toNat).length=es:=by
      rw[<- hrow.length,List.length_take,List.length_drop]; omega
     refine F4 (s:=Instr.indexAt t (U' x) (U' i)) hs hd (rfl:only B (some (.fptr (row m.toNat) 0))=_) fun v hv=>?_
     cases hv
     refine⟨.pointer (some ⟨c,off+m.toNat*es+0,none⟩),?_,?_⟩
     ·rw[hxe,hi]
      simp only[Instr.indexAt,Sem.run_bind,und hu,rK,asIntOf,Sem.run_pure,if_pos (show 0<=m/\m<(n:Int) from hin),A2u hes,M9,Nat.add_zero,Sem.run_ite]
     ·simp only[VR]
      exact⟨c,off+m.toNat*es,cs,h1,rfl,by omega,by rw[hlen]; exact hrow⟩
    ·cases h
   ·cases h
  ·cases h
 | slice t x lo hi mx =>
  cases mx with
  | some _=>simp[afz] at h
  | none =>
   simp only[afz] at h
   split at h
   ·rename_i n row es hxv
    split at h
    ·rename_i e c l hh hu hb
     split at h
     ·rename_i hes
      simp only[sI,pI] at h
      obtain⟨rfl,rfl⟩:=h
      have hx:=hU x
      rw[hxv] at hx
      have hl0:lo=none->l=0:=fun e=>by
       subst e
       unfold A1r at hb
       split at hb
       ·simp only[Option.map_none,sI,pI] at hb; exact hb.2.1.symm
       ·cases hb
      refine F4 (s:=Instr.sliceAt t (U' x) (lo.map U') (hi.map U') none) hs hd (rfl:only B (some _)=_) fun v hv=>?_
      cases hv
      refine C1l hu hes hb (fun i=>?_) hx ?_ ?_
      ·cases lo with
       | none=>rw[hl0 rfl,Nat.zero_add]
       | some _=>rfl
      ·cases lo with
       | none=>trivial
       | some y=>exact hU y
      ·cases hi with
       | none=>trivial
       | some y=>exact hU y
     ·cases h
    ·cases h
   ·cases h
 | call c =>
  obtain⟨callee,args,ats⟩:=c
  cases callee with
  | value f=>simp[afz] at h
  | invoke x m=>simp[afz] at h
  | builtin bi =>
   have hxs:=VRL.map U U' hU args.toList
   have e:(args.toList.map U').toArray=args.map U':=by apply Array.ext'; simp
   cases bi with
   | len =>
    simp only[afz] at h
    split at h
    ·rename_i n row es hargs
     split at h
     ·rename_i el hu
      simp only[sI,pI,true_and] at h
      subst h
      rw[hargs] at hxs
      simp only[VRL] at hxs
      obtain⟨x,l0,hx1,hx,rfl⟩:=hxs
      obtain⟨t,ht1,ht2⟩:∃ t,ats[0]?=some t/\P.underlying t=some (.slice el):=by simpa[Option.bind_eq_some_iff] using hu
      have hm:args.map U'=#[x]:=by rw[<- e,hx1]
      have hp:Pure P w Z (Builtin.len_ ats ty #[x]) (.sint .i64 n):=by
       simp only[VR,FVR] at hx
       refine⟨.int .i64 n,?_,by simp[VR]⟩
       rcases hx with⟨rfl,rfl | ⟨a,cap,rfl⟩⟩ | ⟨h0,c,off,cap,cs,h1,h2,rfl,h4,h5⟩<;>simp[Builtin.len_,ht1,und ht2,goInt]
      have:=Got.of_pure (P:=P) (v:=.sint .i64 n) hs hd hp
      show Got P A Z B w (builtin .len ats ty (args.map fun | .const _=>true | _=>false) (args.map U')) _ _ _
      rw[hm]
      exact this
     ·cases h
    ·cases h
   | _=>simp[afz] at h
 | _=>simp[afz] at h
end
end Go.Ad
namespace Go.Ad
section
variable {P:Program} {A:Amb} {Z:Emb} {B:Heap} {w:World}
theorem Sim.hardT(hs:Sim A Z B w.heap){b n es:Nat}{row:Nat->List AV}{tl:List AV}{ty:TypeId}(hb:B[b]?=some (.tail n row es tl ty)):Sim A Z (B.set b (.cells (flat n row++tl) es true ty)) w.heap :=
 hs.swap hb (fun _=>rfl) (fun _=>rfl) fun _ _ h=>h.2
theorem E4e{n es:Nat}{row:Nat->List AV}{tl vs:List AV}{j:Nat}(hl:(flat n row).length=n*es)(hj:j+vs.length<=tl.length):X5 (flat n row++tl) (n*es+j) vs=flat n row++X5 tl j vs:=by
 apply List.ext_getElem?
 intro i
 rw[Y9]
 by_cases h1:i<n*es
 ·rw[if_neg (by omega),gL (by omega),gL (by omega)]
 ·rw[gR (l₁:=flat n row) (l₂:=tl) (by omega),gR (l₁:=flat n row) (l₂:=X5 tl j vs) (by omega),Y9,hl]
  simp only[lA,hl]
  by_cases h2:n*es+j<=i/\i<n*es+j+vs.length/\i<n*es+tl.length
  ·rw[if_pos h2,if_pos (by omega)]
   congr 1; omega
  ·rw[if_neg h2,if_neg (by omega)]
theorem E2t{o:Oper}{U:Operand->AV}{U':Operand->Value}{v:AV}{B':Heap}{D:List Nat}(h:atl P U B o.op=some (true,v,B',D))(hs:Sim A Z B w.heap)(hd:Dom Z B.length)(hU:∀ x,VR Z (U x) (U' x)):Got P A Z B w (execOp U' o) v B' D:=by
 obtain⟨dst,op,ty,pos,after,guard⟩:=o
 have hsetg:∀ {b:Nat} {o o':AObj},B[b]?=some o->(B.set b o')[b]?=some o':=fun{b o o'} hb=>by
  have hbl:b<B.length:=(gS.1 hb).1
  rw[List.getElem?_set]; simp[hbl]
 cases op with
 | load t a =>
  simp only[atl] at h
  split at h
  case h_2=>cases h
  rename_i b i j ha
  have hx:=hU a
  rw[ha] at hx
  simp only[VR] at hx
  obtain⟨l,hl,hxe⟩:=hx
  split at h
  case h_2=>cases h
  rename_i d n row es tl te hu hb
  obtain⟨⟨hes,hrow⟩,hles,_⟩:=hs.obj b _ l hb hl
  have hlen:=G6 (row:=row) fun i hi=>(hrow i hi).1
  have hsoft:=hs.hardT hb
  have hget:=hsetg (o':=.cells (flat n row++tl) es true te) hb
  have hx':VR Z (.ptr (some (b,i*es+j))) (U' a):=by simp only[VR]; exact⟨l,hl,by rw[hxe,hles]⟩
  have fin:∀ v':AV,A1c P (B.set b (.cells (flat n row++tl) es true te)) t (.ptr (some (b,i*es+j)))=some v'->Got P A Z B w (execOp U' ⟨dst,.load t a,ty,pos,after,guard⟩) v' B []:=fun v' hv'=>by
   have hp:=Y0 (P:=P) hsoft hv' hx'
   exact F4 (s:=Instr.loadAt t (U' a)) hs hd (rfl:only B (some v')=_) fun v hv=>by cases hv; exact hp
  split at h
  ·rename_i hag
   split at h
   case h_2=>cases h
   rename_i k hk
   split at h
   case isFalse=>cases h
   rename_i hjk
   simp only[sI,pI,dQ] at h
   obtain⟨rfl,rfl,rfl,rfl⟩:=h
   refine fin _ ?_
   simp only[A1c,hu,if_pos hag,hk,Option.bind_some,ldN,hget]
   rw[if_pos (by simp only[lA,hlen]; omega)]
   simp only[oS,sI,AV.agg.injEq]
   apply List.ext_getElem?
   intro x
   rw[tK,tK]
   split
   ·rw[dP,dP,gR (by omega)]
    congr 1; omega
   ·rfl
  ·rename_i hag
   split at h
   case h_2=>cases h
   rename_i v' hv'
   simp only[sI,pI,dQ] at h
   obtain⟨rfl,rfl,rfl,rfl⟩:=h
   refine fin _ ?_
   simp only[A1c,hu,if_neg hag,ld1,hget]
   rw[gR (by omega),<- hv']
   congr 1; omega
 | store t a x =>
  simp only[atl] at h
  split at h
  case isTrue=>cases h
  rename_i hbad
  split at h
  case h_2=>cases h
  rename_i b i j ha
  have hx:=hU a
  rw[ha] at hx
  simp only[VR] at hx
  obtain⟨l,hl,hxe⟩:=hx
  split at h
  case h_2=>cases h
  rename_i k n row es tl te hk hb
  split at h
  case isFalse=>cases h
  rename_i hc
  obtain⟨hc1,hc2,hc3⟩:=hc
  simp only[sI,pI,dQ] at h
  obtain⟨rfl,rfl,rfl,rfl⟩:=h
  obtain⟨⟨hes,hrow⟩,hles,_⟩:=hs.obj b _ l hb hl
  have hlen:=G6 (row:=row) fun i hi=>(hrow i hi).1
  have hget:=hsetg (o':=.cells (flat i row++tl) es true te) hb
  have hx':VR Z (.ptr (some (b,i*es+j))) (U' a):=by simp only[VR]; exact⟨l,hl,by rw[hxe,hles]⟩
  have hst:A1f P (B.set b (.cells (flat i row++tl) es true te)) t (.ptr (some (b,i*es+j))) (U x)=some (G8,(B.set b (.cells (flat i row++tl) es true te)).set b (.cells (flat i row++X5 tl j (M3 (U x))) es true te),[b]):=by
   simp only[A1f,hk,hc1,if_true,st,hget]
   rw[if_pos ⟨by simp only[lA,hlen]; omega,hc3⟩,E4e hlen (by omega)]
   rfl
  have hnb:U x≠.bad:=fun e=>by rw[e] at hbad; exact hbad rfl
  have:=A1g (P:=P) (hs.hardT hb) (by simpa using hd) hst hnb hx' (hU x)
  refine this.re (by simp) (b:=b) (o:=.cells (flat i row++X5 tl j (M3 (U x))) es true te) (o':=.tail i row es (X5 tl j (M3 (U x))) te) ?_ (by rw[List.set_set,List.set_set]) rfl rfl fun Z h l ho=>⟨⟨hes,hrow⟩,ho⟩
  have hbl:b<B.length:=(gS.1 hb).1
  simp[hbl]
 | indexAddr t x i =>
  simp only[atl] at h
  split at h
  case h_2=>cases h
  rename_i b s n hxv
  split at h
  case h_2=>cases h
  rename_i e k m mm row es tl te hu hm hb
  split at h
  case isFalse=>cases h
  rename_i hes
  simp only[sI,pI,dQ] at h
  obtain⟨hin,rfl,rfl,rfl⟩:=h
  have hx:=hU x
  rw[hxv] at hx
  simp only[VR] at hx
  obtain⟨l,cap,hl,hnc,hroom,hxe⟩:∃ l cap,Z b=some l/\n<=cap/\l.d+s*l.es+cap*l.es<=l.n/\U' x=.slice (some ⟨l.c,l.d+s*l.es,none⟩) n cap:=by
   rcases hx with⟨_,hx⟩ | ⟨rfl,_⟩
   ·exact hx
   ·omega
  obtain⟨_,hles,_⟩:=hs.obj b _ l hb hl
  have hx':VR Z (.slice (some (b,s*l.es)) n n) (U' x):=by
   simp only[VR]
   exact⟨l,cap,l.d+s*l.es,hl,lR _,hnc,.inl rfl,by omega,hroom,hxe⟩
  have hi:VR Z (.int k m) (U' i):=by simp only[VR]; exact K3 hm (hU i)
  have hidx:Q6 P t (.slice (some (b,s*l.es)) n n) (.int k m)=some (.ptr (some (b,s*l.es+m.toNat*l.es))):=by
   simp only[Q6,hu,hes,if_pos hin,hles]
  obtain⟨y,p1,p2⟩:=R8 (P:=P) (w:=w) hidx hx' hi
  refine F4 (s:=Instr.indexAt t (U' x) (U' i)) hs hd (rfl:only B (some (.sptr b (s+m.toNat) 0))=_) fun v hv=>?_
  cases hv
  refine⟨y,p1,?_⟩
  simp only[VR] at p2 ⊢
  obtain⟨l',q1,q2⟩:=p2
  rw[hl] at q1; cases q1
  exact⟨l,hl,by rw[q2,Nat.add_mul]; simp⟩
 | call c =>
  obtain⟨callee,args,ats⟩:=c
  cases callee with
  | value f=>simp[atl] at h
  | invoke x m=>simp[atl] at h
  | builtin bi =>
   have hxs:=VRL.map U U' hU args.toList
   have e:(args.toList.map U').toArray=args.map U':=by apply Array.ext'; simp
   cases bi with
   | append =>
    simp only[atl] at h
    split at h
    case h_2=>cases h
    rename_i b m x t tx hargs hats
    rw[hargs] at hxs
    simp only[VRL] at hxs
    obtain⟨s',l0,hx1,hx,x',l1,rfl,hy,rfl⟩:=hxs
    have hts:ats=#[t,tx]:=by apply Array.ext'; simpa using hats
    subst hts
    split at h
    case h_2=>cases h
    rename_i te hu
    split at h
    case h_2=>cases h
    rename_i i zc hi hz
    split at h
    case isFalse=>cases h
    rename_i hcond
    split at h
    case h_2=>cases h
    rename_i new n row es tl ty' hal hsrc hb
    split at h
    case isFalse=>cases h
    rename_i hnew
    obtain⟨hn1,hn2,rfl,rfl⟩:=hnew
    simp only[sI,pI,dQ] at h
    obtain⟨⟨hm0,hm1,hm2⟩,rfl,rfl,rfl⟩:=h
    have main:Got P A Z B w (do pure (.value (<- Builtin.append_ #[t,tx] ty #[s',x']))) (.sslice B.length 0 (m+1)) (B.set b .dead++[.tail n row i.size (tl++new) ty']) [b]:=by
     simp only[VR] at hx
     have hbl:b<B.length:=(gS.1 hb).1
     obtain⟨l,cap,hl,hnc,hroom,rfl⟩:∃ l cap,Z b=some l/\m<=cap/\l.d+0*l.es+cap*l.es<=l.n/\s'=.slice (some ⟨l.c,l.d+0*l.es,none⟩) m cap:=by
      rcases hx with⟨_,hx⟩ | ⟨rfl,_⟩
      ·exact hx
      ·omega
     obtain⟨⟨hes,hrow⟩,hles,_⟩:=hs.obj b _ l hb hl
     have hsh:=hs.hardT hb
     have hget:=hsetg (o':=.cells (flat n row++tl) i.size true ty') hb
     have hlen:=G6 (row:=row) fun i hi=>(hrow i hi).1
     have hsrc':A2b (B.set b (.cells (flat n row++tl) i.size true ty')) i.size 1 x=some new:=by
      unfold A2b at hsrc ⊢
      split at hsrc
      ·exact hsrc
      ·rename_i bx ox _ _
       have hne:b≠bx:=fun e=>by subst e; simp[ldN,hb] at hsrc
       simp only[ldN] at hsrc ⊢
       rw[List.getElem?_set,if_neg hne]; exact hsrc
      ·exact hsrc
      ·cases hsrc
     have hx':VR Z (.slice (some (b,0)) m m) (.slice (some ⟨l.c,l.d+0*l.es,none⟩) m cap):=by
      simp only[VR]
      exact⟨l,cap,l.d,hl,lR _,hnc,.inl rfl,lR _,by simpa using hroom,by simp⟩
     have happ:O9 P (B.set b (.cells (flat n row++tl) i.size true ty')) #[t,tx] (.slice (some (b,0)) m m) x =
       some (.slice (some (B.length,0)) (m+1) (m+1),(B.set b (.cells (flat n row++tl) i.size true ty')).set b .dead++[.cells (flat n row++(tl++new)) i.size true ty'],[b]):=by
      simp only[O9,hu,hi,hz,hal,hsrc',hget]
      rw[if_pos hcond]
      simp only[Nat.reduceEqDiff,if_false]
      rw[if_pos ⟨by omega,hn1⟩]
      rw[if_neg (by simp),if_neg (by omega),if_pos (by rw[lA,hlen]; omega)]
      simp only[List.drop_zero,List.length_set]
      rw[List.take_of_length_le (by rw[lA,hlen]; omega),List.append_assoc]
     obtain⟨Z',v',nx,w',g1,g2,g3,g4,g5,g6,g7⟩:=P5 (ty:=ty) hsh (by simpa using hd) happ hx' hy
     rw[List.set_set] at g3 g5 g7
     refine⟨Z',v',nx,w',g1,g2,by simpa using g3,?_,g5.last (fun l' hl' ho'=>⟨⟨hes,hrow⟩,ho'⟩) rfl rfl,by simp,by simpa using g7⟩
     simp only[VR] at g4 ⊢
     obtain⟨l',cap',off,k1,k2,k3,k4,k5,k6,rfl⟩:=g4
     have hoff:off=l'.d:=by rcases k4 with k4 | k4<;>omega
     subst hoff
     exact .inl ⟨by omega,l',cap',k1,by omega,by simpa using k6,by simp⟩
    have hm:args.map U'=#[s',x']:=by rw[<- e,hx1]
    show Got P A Z B w (builtin .append #[t,tx] ty (args.map fun | .const _=>true | _=>false) (args.map U')) _ _ _
    rw[hm]
    exact main
   | _=>simp[atl] at h
 | _=>simp[atl] at h
end
end Go.Ad
namespace Go.Ad
section
variable {P:Program} {A:Amb} {Z:Emb} {B:Heap} {w:World}
theorem D4a{b s n:Nat}{v:Value}(h:VR Z (.aslc b s n) v):∃ l,Z b=some l:=by
 simp only[VR] at h
 obtain⟨l,_,_,h,_⟩:=h
 exact⟨l,h⟩
theorem C1p(hs:Sim A Z B w.heap){t:TypeId}{x h v:AV}{x' h':Value}(hq:Z8 P B t x h=some (true,v))(hx:VR Z x x')(hh:VR Z h h'):Pure P w Z (Instr.sliceAt t x' none (some h') none) v:=by
 have main:∀ (e:TypeId) (b n:Nat) (m:Nat) (row:Nat->List AV) (es:Nat) (ty:TypeId) (l k:Nat),P.underlying t=some (.slice e)->B[b]?=some (.vec m row es ty)->A1r n none (some h)=some (true,l,k)->size? P e=some es ->
   VR Z (.aslc b 0 n) x'->Pure P w Z (Instr.sliceAt t x' none (some h') none) (.aslc b 0 k):=by
  intro e b n m row es ty l k hu hb hbd hsz hx
  obtain⟨lo,hl⟩:=D4a hx
  obtain⟨te,hsoft⟩:=hs.soften hb hl
  have hbl:b<B.length:=(gS.1 hb).1
  have hg:(B.set b (.cells (flat m row) es false te))[b]?=some (.cells (flat m row) es false te):=by rw[List.getElem?_set]; simp[hbl]
  have hl0:l=0:=by
   unfold A1r at hbd
   split at hbd
   ·simp only[sI,pI] at hbd; exact hbd.2.1.symm
   ·cases hbd
  subst hl0
  have hab:=A0t hbd
  have h2:VRo Z (some h) (some h'):=hh
  obtain⟨y,p1,p2⟩:=A1e (P:=P) (w:=w) (t:=t) (v:=.slice (some (b,0+0*es)) (k-0) (n-0)) hsoft (by
   simp only[A2a,hu,hsz,hab,hg]
   rw[if_pos (by simp)]) (G1o.1 hx) (VRo.cnI (o:=none) (o':=none) trivial) h2.cnI (mx:=none) (mx':=none) trivial
  refine⟨y,p1,?_⟩
  simp only[VR] at p2 ⊢
  obtain⟨l1,cap,off,q1,q2,q3,q4,q5,q6,rfl⟩:=p2
  exact⟨l1,cap,off,q1,lR _,by omega,by rcases q4 with q4 | q4<;>omega,q5,q6,by simp⟩
 unfold Z8 at hq
 split at hq
 ·rename_i e b n hu
  split at hq
  ·rename_i m row es ty c l k hb hbd
   split at hq
   ·rename_i hsz
    simp only[sI,pI] at hq
    obtain⟨rfl,rfl⟩:=hq
    exact main e b n m row es ty l k hu hb hbd hsz hx
   ·cases hq
  ·cases hq
 ·rename_i e b n hu
  split at hq
  ·rename_i m row es ty c l k hb hbd
   split at hq
   ·rename_i hsz
    simp only[sI,pI,bA,dQ] at hq
    obtain⟨⟨rfl,h0⟩,rfl⟩:=hq
    refine main e b n m row es ty l k hu hb hbd hsz ?_
    simp only[VR] at hx ⊢
    rcases hx with⟨_,l1,cap,q1,q2,q3,rfl⟩ | ⟨q,_⟩
    ·exact⟨l1,cap,l1.d,q1,lR _,q2,.inl rfl,lR _,by simpa using q3,by simp⟩
    ·omega
   ·cases hq
  ·cases hq
 ·cases hq
theorem OR.fewer{h:Array Obj}{l:Loc}{m n es:Nat}{row:Nat->List AV}{ty:TypeId}(hn:n<=m)(ho:OR Z h l (.vec m row es ty)):OR Z h l (.vec n row es ty):=by
 obtain⟨⟨he,hr⟩,h0,arr,e,fz,h1,h2,h3,h4,h5⟩:=ho
 have hm:=G6 (row:=row) (es:=es) (n:=m) fun i hi=>(hr i hi).1
 have hk:=G6 (row:=row) (es:=es) (n:=n) fun i hi=>(hr i (by omega)).1
 have hle:n*es<=m*es:=Nat.mul_le_mul_right es hn
 refine⟨⟨he,fun i hi=>hr i (by omega)⟩,h0,arr,e,fz,h1,h2,by omega,fun i a hi=>h4 i a ?_,h5⟩
 have hi0:i<n*es:=by
  have:=(gS.1 hi).1
  omega
 have hmod:i%es<es:=Nat.mod_lt _ he
 have hd:i / es<n:=Nat.div_lt_of_lt_mul (by rw[Nat.mul_comm]; exact hi0)
 have hsplit:i=i / es*es+i%es:=by have:=Nat.div_add_mod i es; rw[Nat.mul_comm] at this; exact this.symm
 rw[hsplit] at hi ⊢
 rw[flat_get hmod (fun i hi=>(hr i (by omega)).1) hd] at hi
 rw[flat_get hmod (fun i hi=>(hr i hi).1) (by omega)]
 exact hi
theorem E2p{o:Oper}{U:Operand->AV}{U':Operand->Value}{v:AV}{B':Heap}{D:List Nat}(h:aqs P U B o.op=some (true,v,B',D))(hs:Sim A Z B w.heap)(hd:Dom Z B.length)(hU:∀ x,VR Z (U x) (U' x)):Got P A Z B w (execOp U' o) v B' D:=by
 obtain⟨dst,op,ty,pos,after,guard⟩:=o
 cases op with
 | slice t x lo hi mx =>
  cases lo with
  | some _=>simp[aqs] at h
  | none =>
   cases hi with
   | none=>simp[aqs] at h
   | some hb =>
    cases mx with
    | some _=>simp[aqs] at h
    | none =>
     simp only[aqs,oM,pI] at h
     obtain⟨⟨c,v'⟩,h1,rfl,rfl,rfl,rfl⟩:=h
     exact F4 (s:=Instr.sliceAt t (U' x) none (some (U' hb)) none) hs hd (rfl:only B (some v')=_) fun v hv=>by cases hv; exact C1p hs h1 (hU x) (hU hb)
 | indexAddr t x i =>
  simp only[aqs] at h
  split at h
  case h_2=>cases h
  rename_i b n hxv
  split at h
  case h_2=>cases h
  rename_i e k m mm row es te hu hm hb
  split at h
  case isFalse=>cases h
  rename_i hes
  simp only[sI,pI,dQ] at h
  obtain⟨hin,rfl,rfl,rfl⟩:=h
  have hx:=hU x
  rw[hxv] at hx
  obtain⟨l,hl⟩:=D4a hx
  obtain⟨_,hles,_⟩:=hs.obj b _ l hb hl
  have hi:VR Z (.int k m) (U' i):=by simp only[VR]; exact K3 hm (hU i)
  have hidx:Q6 P t (.slice (some (b,0)) n n) (.int k m)=some (.ptr (some (b,0+m.toNat*l.es))):=by
   simp only[Q6,hu,hes,if_pos hin,hles]
  obtain⟨y,p1,p2⟩:=R8 (P:=P) (w:=w) hidx (G1o.1 hx) hi
  refine F4 (s:=Instr.indexAt t (U' x) (U' i)) hs hd (rfl:only B (some (.sptr b m.toNat 0))=_) fun v hv=>?_
  cases hv
  refine⟨y,p1,?_⟩
  simp only[VR] at p2 ⊢
  obtain⟨l',q1,q2⟩:=p2
  rw[hl] at q1; cases q1
  exact⟨l,hl,by rw[q2]; simp⟩
 | call c =>
  obtain⟨callee,args,ats⟩:=c
  cases callee with
  | value f=>simp[aqs] at h
  | invoke x m=>simp[aqs] at h
  | builtin bi =>
   have hxs:=VRL.map U U' hU args.toList
   have e:(args.toList.map U').toArray=args.map U':=by apply Array.ext'; simp
   cases bi with
   | append =>
    simp only[aqs] at h
    split at h
    case h_2=>cases h
    rename_i b n x t tx hargs hats
    rw[hargs] at hxs
    simp only[VRL] at hxs
    obtain⟨s',l0,hx1,hx,x',l1,rfl,hy,rfl⟩:=hxs
    have hts:ats=#[t,tx]:=by apply Array.ext'; simpa using hats
    subst hts
    split at h
    case h_2=>cases h
    rename_i te hu
    split at h
    case h_2=>cases h
    rename_i i zc hi hz
    split at h
    case isFalse=>cases h
    rename_i hcond
    split at h
    case h_2=>cases h
    rename_i new m row es ty' hal hsrc hb
    split at h
    case isFalse=>cases h
    rename_i hnew
    obtain⟨hn1,hn2,rfl,rfl,hro⟩:=hnew
    simp only[sI,pI,dQ] at h
    obtain⟨⟨hm1,hm2⟩,rfl,rfl,rfl⟩:=h
    rw[bA] at hn1
    have main:Got P A Z B w (do pure (.value (<- Builtin.append_ #[t,tx] ty #[s',x']))) (.aslc B.length 0 (n+1)) (B.set b .dead++[.vec (n+1) (fun r=>B5u (decide (r<n)) (row r) new) i.size ty']) [b]:=by
     have hbl:b<B.length:=(gS.1 hb).1
     obtain⟨l,hl⟩:=D4a hx
     have hs2:Sim A Z (B.set b (.vec n row i.size ty')) w.heap:=hs.swap hb (fun h=>by simpa[AObj.own] using h) (fun _=>rfl) fun _ _ ho=>ho.fewer hm2
     have hg2:(B.set b (.vec n row i.size ty'))[b]?=some (.vec n row i.size ty'):=by rw[List.getElem?_set]; simp[hbl]
     obtain⟨⟨hes,hrow⟩,hles,_⟩:=hs2.obj b _ l hg2 hl
     have hsh:=hs2.harden hro hg2 hl
     rw[List.set_set] at hsh
     have hget:(B.set b (.cells (flat n row) i.size true ty'))[b]?=some (.cells (flat n row) i.size true ty'):=by rw[List.getElem?_set]; simp[hbl]
     have hlen:=G6 (row:=row) fun i hi=>(hrow i hi).1
     have hsrc':A2b (B.set b (.cells (flat n row) i.size true ty')) i.size 1 x=some new:=by
      unfold A2b at hsrc ⊢
      split at hsrc
      ·exact hsrc
      ·rename_i bx ox _ _
       have hne:b≠bx:=fun e=>by subst e; simp[ldN,hb] at hsrc
       simp only[ldN] at hsrc ⊢
       rw[List.getElem?_set,if_neg hne]; exact hsrc
      ·exact hsrc
      ·cases hsrc
     have happ:O9 P (B.set b (.cells (flat n row) i.size true ty')) #[t,tx] (.slice (some (b,0)) n n) x =
       some (.slice (some (B.length,0)) (n+1) (n+1),(B.set b (.cells (flat n row) i.size true ty')).set b .dead++[.cells (flat n row++new) i.size true ty'],[b]):=by
      simp only[O9,hu,hi,hz,hal,hsrc',hget]
      rw[if_pos hcond]
      simp only[Nat.reduceEqDiff,if_false]
      rw[if_pos ⟨by omega,hn1.2⟩]
      rw[if_neg (by simp),if_neg (by omega),if_pos (by rw[hlen]; omega)]
      simp only[List.drop_zero,List.length_set]
      rw[List.take_of_length_le (by omega)]
     obtain⟨Z',v',nx,w',g1,g2,g3,g4,g5,g6,g7⟩:=P5 (ty:=ty) hsh (by simpa using hd) happ (G1o.1 hx) hy
     rw[List.set_set] at g3 g5 g7
     exact⟨Z',v',nx,w',g1,g2,by simpa using g3,G1o.2 g4,g5.last (fun l' hl' ho'=>OR.append hes (fun i hi=>(hrow i hi).1) hn2 ho') (by simp[AObj.own,hro]) rfl,by simp,by simpa using g7⟩
    have hm:args.map U'=#[s',x']:=by rw[<- e,hx1]
    show Got P A Z B w (builtin .append #[t,tx] ty (args.map fun | .const _=>true | _=>false) (args.map U')) _ _ _
    rw[hm]
    exact main
   | _=>simp[aqs] at h
 | _=>simp[aqs] at h
end
end Go.Ad
