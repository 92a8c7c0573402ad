/- Lists that never change: the operations on them stand for the model's. -/
import Derived.Test.YtoboneiigikidaaGreatDoorAdOpsB
import Derived.Test.YtoboneiigikidaaGreatDoorAdOpsA
namespace Go.Ad
section
variable {P:Program} {A:Amb} {Z:Emb} {B:Heap} {w:World}
theorem C4n(hs:Sim A Z B w.heap){t:TypeId}{cs:List FV}{j:Nat}{v:AV}{x:Value}(h:C4m P t cs j=some v)(hx:VR Z (.fptr cs j) x):Pure P w Z (Instr.loadAt t x) v:=by
 simp only[VR] at hx
 obtain⟨c,off,vs,h1,rfl,h2,h3⟩:=hx
 obtain⟨arr,e,z,g1,g2⟩:=hs.fzOK c vs h1
 have hcell:∀ (i:Nat) (a:FV),cs[i]?=some a->∃ y,w.cell? ⟨c,off+i,none⟩=some y/\FVR Z.fz a y:=fun i a hi=>by
  obtain⟨y,q1,q2⟩:=h3.get hi
  rw[tK] at q1
  split at q1
  ·rw[dP] at q1
   exact⟨y,by rw[cell_of g1]; exact g2 _ _ q1,q2⟩
  ·cases q1
 unfold C4m at h
 split at h
 ·cases h
 ·rename_i d hd
  unfold Pure
  simp only[Instr.loadAt,Instr.sureAddr,Sem.run_bind,Sem.run_pure,rK,loadVar,B3p hd]
  split at h
  ·rename_i hag
   split at h
   ·rename_i k hk
    split at h
    ·rename_i hjk
     cases h
     have hsz:∀ i,i<k->off+j+i<arr.size:=fun i hi=>by
      obtain⟨y,q1,_⟩:=hcell (j+i) _ (gE (by omega))
      rw[cell_of g1] at q1
      have:=(gA.1 q1).1
      omega
     have hrun:=run_loadCells (P:=P) w ⟨c,off+j,none⟩ k (fun i=>arr.getD (off+j+i) undef) (fun i hi=>by
      rw[M3,cell_of g1]
      have:=hsz i hi
      simp[aE this])
     simp only[hag,if_true,Sem.run_bind,A2e hk,rK,hrun,Sem.run_pure]
     refine⟨_,rfl,?_⟩
     simp only[VR]
     refine⟨_,rfl,.of_get (by simp; omega) fun i x hi=>?_⟩
     rw[List.getElem?_map,oM] at hi
     obtain⟨a,q1,rfl⟩:=hi
     rw[tK] at q1
     split at q1
     ·rename_i hik
      rw[dP] at q1
      obtain⟨y,r1,r2⟩:=hcell _ _ q1
      rw[cell_of g1] at r1
      refine⟨y,?_,FV.av_VR r2⟩
      rw[<- Nat.add_assoc] at r1
      simp[List.getElem?_range hik,r1]
     ·cases q1
    ·cases h
   ·cases h
  ·rename_i hag
   simp only[oM] at h
   obtain⟨a,q1,rfl⟩:=h
   obtain⟨y,r1,r2⟩:=hcell _ _ q1
   simp only[hag,Bool.false_eq_true,if_false,A9t r1]
   exact⟨_,rfl,FV.av_VR r2⟩
theorem C0w{t e:TypeId}{n es l h:Nat}{row row':Nat->List FV}{x:Value}{lo hi:Option AV}{lo' hi':Option Value}(hu:P.underlying t=some (.slice e))(hk:size? P e=some es)(hb:A2s n lo hi=some (true,l,h))(hrow:∀ i,row' i=row (l+i))(hx:VR Z (.flist n row es) x)(h1:VRo Z lo lo')(h2:VRo Z hi hi'):Pure P w Z (Instr.sliceAt t x lo' hi' none) (.flist (h-l) row' es):=by
 have hab:=B5p hb
 simp only[VR,FVR] at hx
 rcases hx with⟨rfl,rfl | ⟨a,cap,rfl⟩⟩ | ⟨h0,c,off,cap,cs,g1,g2,rfl,g4,g5⟩
 ·obtain⟨M',r1,r2,r3,r4,r5,r6⟩:=U8 (P:=P) (w:=w) (sl:=true) hab (lR _) (lR _) h1.cnI h2.cnI (mx:=none) (mx':=none) trivial
  have e1:h-l=0:=by omega
  have e2:M'-l=0:=by omega
  refine⟨.slice none 0 0,?_,by simp[VR,FVR,e1]⟩
  simp only[Instr.sliceAt,Sem.run_bind,und hu,rK,Instr.slice,r1,A2e hk,Sem.run_pure,e1,e2]
  simp
 ·obtain⟨M',r1,r2,r3,r4,r5,r6⟩:=U8 (P:=P) (w:=w) (sl:=true) hab (lR _) (Nat.zero_le cap) h1.cnI h2.cnI (mx:=none) (mx':=none) trivial
  have e1:h-l=0:=by omega
  have e2:l=0:=by omega
  subst e2
  have e3:h=0:=by omega
  subst e3
  refine⟨.slice (some (if M'=0 then a else a.add (0*es))) 0 (M'-0),?_,by simp only[VR,FVR,Nat.sub_self]; exact .inl ⟨trivial,.inr ⟨_,_,rfl⟩⟩⟩
  simp only[Instr.sliceAt,Sem.run_bind,und hu,rK,Instr.slice,r1,A2e hk,Sem.run_pure,oS]
  congr 2
  split<;>rfl
 ·obtain⟨M',r1,r2,r3,r4,r5,r6⟩:=U8 (P:=P) (w:=w) (sl:=true) hab (lR _) g2 h1.cnI h2.cnI (mx:=none) (mx':=none) trivial
  refine⟨.slice (some ⟨c,if M'=l then off else off+l*es,none⟩) (h-l) (M'-l),?_,?_⟩
  ·simp only[Instr.sliceAt,Sem.run_bind,und hu,rK,Instr.slice,r1,A2e hk,Sem.run_pure,oS,M3]
   congr 2
   split<;>rfl
  ·simp only[VR,FVR]
   by_cases e1:h-l=0
   ·rw[e1]; exact .inl ⟨rfl,.inr ⟨_,_,rfl⟩⟩
   ·rw[if_neg (by omega)]
    have hle:(l+(h-l))*es<=n*es:=Nat.mul_le_mul_right es (by omega)
    rw[Nat.add_mul] at hle
    refine .inr ⟨by omega,c,off+l*es,M'-l,cs,g1,by omega,rfl,by omega,fun i hi=>?_⟩
    rw[hrow i,show off+l*es+i*es=off+(l+i)*es by rw[Nat.add_mul,Nat.add_assoc]]
    exact g5 (l+i) (by omega)
theorem E2f{o:Oper}{U:Operand->AV}{U':Operand->Value}{v:AV}(h:afz P U o.op=some (true,v))(hs:Sim A Z B w.heap)(hd:Dom Z B.length)(hU:∀ x,VR Z (U x) (U' x)):Got P A Z B w (execOp U' o) v B []:=by
 obtain⟨dst,op,ty,pos,after,guard⟩:=o
 cases op with
 | load t a =>
  simp only[afz] at h
  split at h
  ·rename_i cs j ha
   simp only[oM,pI,true_and] at h
   obtain⟨v',h1,rfl⟩:=h
   have hx:=hU a
   rw[ha] at hx
   exact F6 (s:=Instr.loadAt t (U' a)) hs hd (rfl:only B (some v')=_) fun v hv=>by cases hv; exact C4n hs h1 hx
  ·cases h
 | fieldAddr t x f =>
  simp only[afz] at h
  split at h
  ·rename_i cs j hxv
   split at h
   ·rename_i fs hu
    split at h
    ·rename_i fd hf
     split at h
     ·rename_i n hn
      split at h
      ·cases h
      ·rename_i hn0
       simp only[sI,pI,true_and] at h
       subst h
       have hx:=hU x
       rw[hxv] at hx
       simp only[VR] at hx
       obtain⟨c,off,vs,h1,hxe,h2,h3⟩:=hx
       refine F6 (s:=Instr.fieldAt t (U' x) f) hs hd (rfl:only B (some (.fptr cs (j+fd.offset)))=_) fun v hv=>?_
       cases hv
       refine⟨_,?_,by simp only[VR]; exact⟨c,off,vs,h1,rfl,h2,h3⟩⟩
       rw[hxe]
       simp only[Instr.fieldAt,Sem.run_bind,und hu,rK,hf,Instr.sureAddr,Sem.run_pure,fieldPlace,A2e hn,if_neg hn0,M3,Nat.add_assoc]
     ·cases h
    ·cases h
   ·cases h
  ·cases h
 | nilCheck x =>
  simp only[afz] at h
  split at h
  ·rename_i cs j hxv
   simp only[sI,pI,true_and] at h
   subst h
   have hx:=hU x
   rw[hxv] at hx
   have hx':=hx
   simp only[VR] at hx'
   obtain⟨c,off,vs,_,hxe,_⟩:=hx'
   refine⟨Z,U' x,.value (U' x),w,?_,.inl rfl,.refl _ _ _,hx,hs,lR _,hd⟩
   show(match U' x with
    | .pointer none | .nilIface | .nilFunc=>runtimePanic .nilDeref
    | .func (.method name) first captured=>_
    | x=>pure (.value x):Sem Next).run P w=_
   rw[hxe]; rfl
  ·cases h
 | indexAddr t x i =>
  simp only[afz] at h
  split at h
  ·rename_i n row es hxv
   split at h
   ·rename_i e k m hu hm
    split at h
    ·rename_i hes
     simp only[sI,pI,dQ] at h
     obtain⟨hin,rfl⟩:=h
     have hx:=hU x
     rw[hxv] at hx
     simp only[VR,FVR] at hx
     have hi:U' i=.int k m:=L6 hm (hU i)
     rcases hx with⟨h0,_⟩ | ⟨h0,c,off,cap,cs,h1,h2,hxe,h4,h5⟩
     ·omega
     have hmn:m.toNat<n:=by omega
     have hle:m.toNat*es+es<=n*es:=by rw[<- Nat.succ_mul]; exact Nat.mul_le_mul_right es hmn
     have hrow:=h5 _ hmn
     have hlen:(row m.toNat).length=es:=by
      rw[<- hrow.length,List.length_take,List.length_drop]; omega
     refine F6 (s:=Instr.indexAt t (U' x) (U' i)) hs hd (rfl:only B (some (.fptr (row m.toNat) 0))=_) fun v hv=>?_
     cases hv
     refine⟨.pointer (some ⟨c,off+m.toNat*es+0,none⟩),?_,?_⟩
     ·rw[hxe,hi]
      simp only[Instr.indexAt,Sem.run_bind,und hu,rK,asIntOf,Sem.run_pure,if_pos (show 0<=m/\m<(n:Int) from hin),A2e hes,M3,Nat.add_zero,Sem.run_ite]
     ·simp only[VR]
      exact⟨c,off+m.toNat*es,cs,h1,rfl,by omega,by rw[hlen]; exact hrow⟩
    ·cases h
   ·cases h
  ·cases h
 | slice t x lo hi mx =>
  cases mx with
  | some _=>simp[afz] at h
  | none =>
   simp only[afz] at h
   split at h
   ·rename_i n row es hxv
    split at h
    ·rename_i e c l hh hu hb
     split at h
     ·rename_i hes
      simp only[sI,pI] at h
      obtain⟨rfl,rfl⟩:=h
      have hx:=hU x
      rw[hxv] at hx
      have hl0:lo=none->l=0:=fun e=>by
       subst e
       unfold A2s at hb
       split at hb
       ·simp only[Option.map_none,sI,pI] at hb; exact hb.2.1.symm
       ·cases hb
      refine F6 (s:=Instr.sliceAt t (U' x) (lo.map U') (hi.map U') none) hs hd (rfl:only B (some _)=_) fun v hv=>?_
      cases hv
      refine C0w hu hes hb (fun i=>?_) hx ?_ ?_
      ·cases lo with
       | none=>rw[hl0 rfl,Nat.zero_add]
       | some _=>rfl
      ·cases lo with
       | none=>trivial
       | some y=>exact hU y
      ·cases hi with
       | none=>trivial
       | some y=>exact hU y
     ·cases h
    ·cases h
   ·cases h
 | call c =>
  obtain⟨callee,args,ats⟩:=c
  cases callee with
  | value f=>simp[afz] at h
  | invoke x m=>simp[afz] at h
  | builtin bi =>
   have hxs:=VRL.map U U' hU args.toList
   have e:(args.toList.map U').toArray=args.map U':=by apply Array.ext'; simp
   cases bi with
   | len =>
    simp only[afz] at h
    split at h
    ·rename_i n row es hargs
     split at h
     ·rename_i el hu
      simp only[sI,pI,true_and] at h
      subst h
      rw[hargs] at hxs
      simp only[VRL] at hxs
      obtain⟨x,l0,hx1,hx,rfl⟩:=hxs
      obtain⟨t,ht1,ht2⟩:∃ t,ats[0]?=some t/\P.underlying t=some (.slice el):=by simpa[Option.bind_eq_some_iff] using hu
      have hm:args.map U'=#[x]:=by rw[<- e,hx1]
      have hp:Pure P w Z (Builtin.len_ ats ty #[x]) (.sint .i64 n):=by
       simp only[VR,FVR] at hx
       refine⟨.int .i64 n,?_,by simp[VR]⟩
       rcases hx with⟨rfl,rfl | ⟨a,cap,rfl⟩⟩ | ⟨h0,c,off,cap,cs,h1,h2,rfl,h4,h5⟩<;>simp[Builtin.len_,ht1,und ht2,goInt]
      have:=Got.of_pure (P:=P) (v:=.sint .i64 n) hs hd hp
      show Got P A Z B w (builtin .len ats ty (args.map fun | .const _=>true | _=>false) (args.map U')) _ _ _
      rw[hm]
      exact this
     ·cases h
    ·cases h
   | _=>simp[afz] at h
 | _=>simp[afz] at h
end
end Go.Ad
namespace Go.Ad
section
variable {P:Program} {A:Amb} {Z:Emb} {B:Heap} {w:World}
end
end Go.Ad
namespace Go.Ad
section
variable {P:Program} {A:Amb} {Z:Emb} {B:Heap} {w:World}
end
end Go.Ad
