/- Lists of which the number of rows is not known: the operations on them stand for the model's. -/
import Derived.Test.YtoboneiigikidaaGreatDoorAdOpsM
namespace Go.Ad
section
variable {P:Program} {A:Amb} {Z:Emb} {B:Heap} {w:World}
theorem A1o(n:Nat)(row:Nat->List AV):flat (n+1) row=flat n row++row n:=by simp[flat,List.range_succ]
theorem G8{row:Nat->List AV}{es:Nat}:∀ {n:Nat},(∀ i,i<n->(row i).length=es)->(flat n row).length=n*es
 | 0,_=>by simp[flat]
 | n+1,h=>by rw[A1o,lA,G8 fun i hi=>h i (by omega),h n (by omega),Nat.succ_mul]
theorem flat_get{row:Nat->List AV}{es i j:Nat}(hj:j<es):∀ {n:Nat},(∀ i,i<n->(row i).length=es)->i<n->(flat n row)[i*es+j]?=(row i)[j]?
 | 0,_,h=>by omega
 | n+1,h,hi=>by
  have hl:=G8 (n:=n) fun i hi=>h i (by omega)
  rw[A1o]
  by_cases e:i<n
  ·have h1:i*es+es<=n*es:=by rw[<- Nat.succ_mul]; exact Nat.mul_le_mul_right es e
   rw[gL (by omega)]
   exact flat_get hj (fun i hi=>h i (by omega)) e
  ·have e1:i=n:=by omega
   subst e1
   rw[gR (by omega),hl]
   congr 1; omega
theorem Sim.kill{h:Array Obj}(hs:Sim A Z B h)(b:Nat):Sim A Z (B.set b AObj.dead) h:=by
 have hget:∀ (x:Nat) (p:AObj),(B.set b AObj.dead)[x]?=some p->p=AObj.dead \/ B[x]?=some p:=fun x p hp=>by
  rw[List.getElem?_set] at hp
  split at hp
  ·split at hp
   ·cases hp; exact .inl rfl
   ·cases hp
  ·exact .inr hp
 refine⟨fun x o l hx hl=>?_,hs.lt,fun x y l l' o o' hne hl hl' hx hy h1 h2=>?_,hs.amb,fun x l o hl hx h1=>?_,hs.gLe,hs.fzOK,fun c v x l o hc hl hx h1=>?_⟩
 ·rcases hget x o hx with rfl | hx
  ·trivial
  ·exact hs.obj x o l hx hl
 ·rcases hget x o hx with rfl | hx
  ·cases h1
  ·rcases hget y o' hy with rfl | hy
   ·cases h2
   ·exact hs.own x y l l' o o' hne hl hl' hx hy h1 h2
 ·rcases hget x o hx with rfl | hx
  ·cases h1
  ·exact hs.ownG x l o hl hx h1
 ·rcases hget x o hx with rfl | hx
  ·cases h1
  ·exact hs.fzSep c v x l o hc hl hx h1
theorem Step.dirty{Z':Emb}{n n':Nat}{D D2:List Nat}{w w':World}(h:Step Z Z' n n' D w w')(hD:∀ b,b∈D->b∈D2):Step Z Z' n n' D2 w w':=by
 refine⟨h.ext,fun b l p q=>?_,h.size,fun c hc hD2=>h.keep c hc fun b hb=>hD2 b (hD b hb),h.loops,h.defs,h.tape,h.os,h.out,fun c v p q=>(h.fdom c v p q).imp id fun⟨b,hb,r⟩=>⟨b,hD b hb,r⟩⟩
 obtain⟨p1,p2,p3⟩:=h.dom b l p q
 refine⟨p1,p2,?_⟩
 rcases p3 with p3 | ⟨b0,q1,q2⟩
 ·exact .inl p3
 ·exact .inr ⟨b0,hD b0 q1,q2⟩
theorem Sim.harden(hs:Sim A Z B w.heap){b n es:Nat}{row:Nat->List AV}{ty:TypeId}{l:Loc}(ht:ty≠roT)(hb:B[b]?=some (.vec n row es ty))(hl:Z b=some l):Sim A Z (B.set b (.cells (flat n row) es true ty)) w.heap :=
 hs.upd hb hl (by simp[AObj.own,ht]) rfl (fun _ _=>rfl) ((hs.obj b _ l hb hl).hard ht)
theorem Sim.soften(hs:Sim A Z B w.heap){b n es:Nat}{row:Nat->List AV}{ty:TypeId}{l:Loc}(hb:B[b]?=some (.vec n row es ty))(hl:Z b=some l):∃ e,Sim A Z (B.set b (.cells (flat n row) es false e)) w.heap:=by
 obtain⟨e,he⟩:=(hs.obj b _ l hb hl).soft
 exact⟨e,hs.swap hb (fun q=>by cases q) (fun _=>rfl) fun l' hl' _=>by rw[hl] at hl'; cases hl'; exact he⟩
theorem C4v(hs:Sim A Z B w.heap){t:TypeId}{b i j:Nat}{v:AV}{x:Value}(h:D4u P B t b i j=some (true,v))(hx:VR Z (.sptr b i j) x):Pure P w Z (Instr.loadAt t x) v:=by
 simp only[VR] at hx
 obtain⟨l,hl,rfl⟩:=hx
 unfold D4u at h
 split at h
 ·rename_i d n row es ty hu hb
  obtain⟨⟨hes,hrow⟩,hles,_⟩:=hs.obj b _ l hb hl
  have hbl:b<B.length:=(gS.1 hb).1
  obtain⟨te,hsoft⟩:=hs.soften hb hl
  have hget:(B.set b (.cells (flat n row) es false te))[b]?=some (.cells (flat n row) es false te):=by rw[List.getElem?_set]; simp[hbl]
  have hx':VR Z (.ptr (some (b,i*es+j))) (.pointer (some ⟨l.c,l.d+(i*l.es+j),none⟩)):=by
   simp only[VR]; exact⟨l,hl,by rw[hles]⟩
  refine Y7 hsoft ?_ hx'
  simp only[A2m,hu]
  split at h
  ·rename_i hag
   rw[if_pos hag]
   split at h
   ·rename_i k hk
    split at h
    ·rename_i hjk
     simp only[sI,pI,dQ] at h
     obtain⟨hin,rfl⟩:=h
     simp only[hk,Option.bind_some,ldN,hget]
     have hlen:=G8 (row:=row) fun i hi=>(hrow i hi).1
     have hle:i*es+es<=n*es:=by rw[<- Nat.succ_mul]; exact Nat.mul_le_mul_right es hin
     rw[if_pos (by omega)]
     simp only[oS,sI,AV.agg.injEq]
     apply List.ext_getElem?
     intro x
     rw[tK,tK]
     split
     ·rename_i hxk
      rw[dP,dP,Nat.add_assoc]
      exact flat_get (by omega) (fun i hi=>(hrow i hi).1) hin
     ·rfl
    ·cases h
   ·cases h
  ·rename_i hag
   rw[if_neg hag]
   split at h
   ·rename_i v' hv
    simp only[sI,pI,dQ] at h
    obtain⟨hin,rfl⟩:=h
    have hj:j<es:=by
     have:=(gS.1 hv).1
     rw[(hrow i hin).1] at this; exact this
    simp only[ld1,hget]
    rw[flat_get hj (fun i hi=>(hrow i hi).1) hin]; exact hv
   ·cases h
 ·cases h
theorem E8l{x y:AV}{v:Value}(h:VR Z x v):VR Z (mrg true x y) v:=by
 unfold mrg
 split
 ·rename_i h1 _
  split
  ·simp only[VR]; exact L6 h1 h
  ·simp only[VR]
 ·split
  ·rename_i h1 _; simp only[VR]; exact A5o h1 h
  ·split
   ·rename_i h1 _; simp only[VR]; exact N8 h1 h
   ·simp only[VR]
theorem E3i{x y:AV}{v:Value}(h:VR Z y v):VR Z (mrg false x y) v:=by
 unfold mrg
 split
 ·rename_i h1 h2
  split
  ·rename_i e; subst e; simp only[VR]; exact L6 h2 h
  ·simp only[VR]
 ·split
  ·rename_i h1 h2; simp only[VR]; exact A5o h2 h
  ·split
   ·rename_i h1 h2; simp only[VR]; exact N8 h2 h
   ·simp only[VR]
theorem E3j(b:Bool)(x y:AV):A0h (mrg b x y)=true:=by
 unfold mrg
 split
 ·split<;>rfl
 ·split
  ·rfl
  ·split<;>rfl
theorem B4t(b:Bool):∀ (xs ys:List AV),(C1i b xs ys).length=ys.length
 | _,[]=>rfl
 | xs,y::ys=>by simp only[C1i,List.length_cons]; rw[B4t b xs.tail ys]
theorem B9g(b:Bool):∀ (xs ys:List AV) (i:Nat) (a:AV),(C1i b xs ys)[i]?=some a->∃ y,ys[i]?=some y/\a=mrg b (xs.getD i y) y
 | xs,[],_,_,h=>by simp[C1i] at h
 | xs,y::ys,0,a,h=>by
  simp[C1i] at h
  exact⟨y,by simp,by rw[<- h]; cases xs<;>simp⟩
 | xs,y::ys,i+1,a,h=>by
  simp only[C1i,List.getElem?_cons_succ] at h
  obtain⟨y',h2,h3⟩:=B9g b xs.tail ys i a h
  exact⟨y',by simpa using h2,by rw[h3]; cases xs<;>simp⟩
theorem D6n(b:Bool)(xs ys:List AV):(C1i b xs ys).all A0h=true:=by
 rw[List.all_eq_true]
 intro a ha
 obtain⟨i,hi,rfl⟩:=List.mem_iff_getElem.1 ha
 obtain⟨y,_,e⟩:=B9g b xs ys i _ (gE hi)
 rw[e]; exact E3j _ _ _
def K4(n:Nat)(row:Nat->List AV)(new:List AV):Nat->List AV:=fun r=>C1i (decide (r<n)) (row r) new
theorem OR.append{h:Array Obj}{l:Loc}{n es:Nat}{row:Nat->List AV}{new:List AV}{ty:TypeId}(hes:0<es)(hrow:∀ i,i<n->(row i).length=es)(hnew:new.length=es)(ho:OR Z h l (.cells (flat n row++new) es true ty)):OR Z h l (.vec (n+1) (K4 n row new) es ty):=by
 obtain⟨h0,arr,e,fz,h1,h2,h3,h4,h5⟩:=ho
 have hl':∀ i,i<n+1->(K4 n row new i).length=es:=fun i hi=>by rw[K4,B4t,hnew]
 have hlen:(flat (n+1) (K4 n row new)).length=(flat n row++new).length:=by
  rw[G8 hl',lA,G8 hrow,hnew,Nat.succ_mul]
 refine⟨⟨hes,fun i hi=>⟨hl' i hi,D6n _ _ _⟩⟩,h0,arr,ty,fz,h1,h2,by rw[hlen]; exact h3,fun i a hi=>?_,fun _=>⟨rfl,(h5 rfl).2⟩⟩
 have hi0:i<(n+1)*es:=by
  have:=(gS.1 hi).1
  rwa [G8 hl'] at this
 have hm:i%es<es:=Nat.mod_lt _ hes
 have hd:i / es<n+1:=Nat.div_lt_of_lt_mul (by rw[Nat.mul_comm]; exact hi0)
 have hsplit:i=i / es*es+i%es:=by have:=Nat.div_add_mod i es; rw[Nat.mul_comm] at this; exact this.symm
 have hi2:(K4 n row new (i / es))[i%es]?=some a:=by
  rw[<- flat_get hm hl' hd,<- hsplit]; exact hi
 obtain⟨y,q2,q3⟩:=B9g _ _ _ _ _ hi2
 by_cases hlt:i / es<n
 ·have hx0:i%es<(row (i / es)).length:=by rw[hrow _ hlt]; exact hm
  have hx:(flat n row++new)[i]?=some ((row (i / es)).getD (i%es) y):=by
   have h8:i / es*es+es<=n*es:=by rw[<- Nat.succ_mul]; exact Nat.mul_le_mul_right es hlt
   rw[gL (by rw[G8 hrow]; omega)]
   have:=flat_get hm hrow hlt
   rw[<- hsplit] at this
   rw[this,gD,gE hx0,Option.getD_some]
  obtain⟨v,p1,p2⟩:=h4 i _ hx
  exact⟨v,p1,by rw[q3,dT hlt]; exact E8l p2⟩
 ·have hdn:i / es=n:=by omega
  have hy:(flat n row++new)[i]?=some y:=by
   have h8:i=n*es+i%es:=by rw[<- hdn]; exact hsplit
   rw[gR (by rw[G8 hrow]; omega),G8 hrow]
   rw[show i-n*es=i%es by omega]; exact q2
  obtain⟨v,p1,p2⟩:=h4 i y hy
  exact⟨v,p1,by rw[q3,dF hlt]; exact E3i p2⟩
theorem Sim.last{B1:Heap}{o o':AObj}{h:Array Obj}(hs:Sim A Z (B1++[o]) h)(ho:∀ l,Z B1.length=some l->OR Z h l o->OR Z h l o')(h1:o'.own=o.own)(h2:o'.live=o.live):Sim A Z (B1++[o']) h:=by
 have hget:∀ x p,(B1++[o'])[x]?=some p->(x=B1.length/\p=o') \/ (x≠B1.length/\(B1++[o])[x]?=some p):=fun x p hp=>by
  by_cases e:x=B1.length
  ·subst e
   left; simp at hp; exact⟨rfl,hp.symm⟩
  ·right
   refine⟨e,?_⟩
   rw[List.getElem?_append] at hp ⊢
   split at hp
   ·rename_i hlt; rw[if_pos hlt]; exact hp
   ·rename_i hlt
    rw[gO (by simp; omega)] at hp; cases hp
 have hlast:(B1++[o])[B1.length]?=some o:=by simp
 refine⟨fun x p l hp hl=>?_,hs.lt,fun x y l l' p p' hne hl hl' hp hp' h3 h4=>?_,hs.amb,fun x l p hl hp h3=>?_,hs.gLe,hs.fzOK,fun c v x l p hc hl hp h3=>?_⟩
 ·rcases hget x p hp with⟨rfl,rfl⟩ | ⟨_,hp⟩
  ·exact ho l hl (hs.obj _ o l hlast hl)
  ·exact hs.obj x p l hp hl
 ·rcases hget x p hp with⟨e1,e2⟩ | ⟨_,hq⟩<;>rcases hget y p' hp' with⟨e3,e4⟩ | ⟨_,hq'⟩
  ·exact(hne (e1.trans e3.symm)).elim
  ·subst e1 e2; exact hs.own _ y l l' o p' hne hl hl' hlast hq' (by rw[<- h1]; exact h3) h4
  ·subst e3 e4; exact hs.own x _ l l' p o hne hl hl' hq hlast h3 (by rw[<- h2]; exact h4)
  ·exact hs.own x y l l' p p' hne hl hl' hq hq' h3 h4
 ·rcases hget x p hp with⟨rfl,rfl⟩ | ⟨_,hp⟩
  ·exact hs.ownG _ l o hl hlast (by rw[<- h1]; exact h3)
  ·exact hs.ownG x l p hl hp h3
 ·rcases hget x p hp with⟨rfl,rfl⟩ | ⟨_,hp⟩
  ·exact hs.fzSep c v _ l o hc hl hlast (by rw[<- h1]; exact h3)
  ·exact hs.fzSep c v x l p hc hl hp h3
theorem B7v{t tx ty:TypeId}{b n:Nat}{x v:AV}{s' x':Value}{B':Heap}{D:List Nat}(hs:Sim A Z B w.heap)(hd:Dom Z B.length)(h:A7q P B t tx b n x=some (true,v,B',D))(hx:VR Z (.sslice b 0 n) s')(hy:VR Z x x'):Got P A Z B w (do pure (.value (<- Builtin.append_ #[t,tx] ty #[s',x']))) v B' D:=by
 unfold A7q at h
 split at h
 ·rename_i e hu
  split at h
  ·rename_i i zc hi hz
   split at h
   ·rename_i hcond
    split at h
    ·rename_i hal
     split at h
     ·rename_i new hsrc
      split at h
      ·rename_i hnew
       split at h
       ·rename_i m row es te hb
        split at h
        ·rename_i hee
         obtain⟨rfl,rfl,hro⟩:=hee
         simp only[sI,pI,dQ] at h
         obtain⟨⟨hn,rfl⟩,rfl,rfl,rfl⟩:=h
         simp only[VR] at hx
         have hbl:b<B.length:=(gS.1 hb).1
         rw[bA] at hnew
         rcases hx with⟨hn0,l,cap,hl,hnc,hroom,rfl⟩ | ⟨rfl,rfl⟩
         case inr =>
          have hs0:Sim A Z (B.set b .dead) w.heap:=hs.kill b
          have hx':VR Z (.slice none 0 0) (.slice none 0 0):=by simp[VR]
          have hsrc':A7m (B.set b .dead) i.size 1 x=some new:=by
           unfold A7m at hsrc ⊢
           split at hsrc
           ·exact hsrc
           ·rename_i bx ox _ _
            have hne:b≠bx:=fun e=>by subst e; simp[ldN,hb] at hsrc
            simp only[ldN] at hsrc ⊢
            rw[List.getElem?_set,if_neg hne]; exact hsrc
           ·exact hsrc
           ·cases hsrc
          have happ:R9 P (B.set b .dead) #[t,tx] (.slice none 0 0) x=some (.slice (some (B.length,0)) 1 1,B.set b .dead++[.cells new i.size true te],[]):=by
           simp only[R9,hu,hi,hz,hal,hsrc']
           rw[if_pos hcond]
           simp only[Nat.reduceEqDiff,if_false]
           rw[if_pos ⟨by omega,hnew.1.2⟩]
           simp
          obtain⟨Z',v',nx,w',g1,g2,g3,g4,g5,g6,g7⟩:=U7 (ty:=ty) hs0 (by simpa using hd) happ hx' hy
          have hes:0<i.size:=hcond.2.1
          refine⟨Z',v',nx,w',g1,g2,?_,?_,g5.last (fun l' hl' ho'=>?_) (by simp[AObj.own,hro]) rfl,by simp,by simpa using g7⟩
          ·have g3':Step Z Z' B.length (B.length+1) [] w w':=by simpa using g3
           simpa using g3'.dirty (D2:=[b]) (by simp)
          ·simp only[VR] at g4 ⊢
           obtain⟨l',cap',off,k1,k2,k3,k4,k5,k6,rfl⟩:=g4
           have hoff:off=l'.d:=by rcases k4 with k4 | k4<;>omega
           subst hoff
           exact .inl ⟨by omega,l',cap',by simpa using k1,by omega,by simpa using k6,by simp⟩
          ·exact OR.append (n:=0) hes (fun i hi=>by omega) hnew.2 (by simpa[flat] using ho')
         obtain⟨⟨hes,hrow⟩,hles,_⟩:=hs.obj b _ l hb hl
         have hsh:=hs.harden hro hb hl
         have hget:(B.set b (.cells (flat n row) i.size true te))[b]?=some (.cells (flat n row) i.size true te):=by rw[List.getElem?_set]; simp[hbl]
         have hlen:=G8 (row:=row) fun i hi=>(hrow i hi).1
         have hsrc':A7m (B.set b (.cells (flat n row) i.size true te)) i.size 1 x=some new:=by
          unfold A7m at hsrc ⊢
          split at hsrc
          ·exact hsrc
          ·rename_i bx ox _ _
           have hne:b≠bx:=fun e=>by subst e; simp[ldN,hb] at hsrc
           simp only[ldN] at hsrc ⊢
           rw[List.getElem?_set,if_neg hne]; exact hsrc
          ·exact hsrc
          ·cases hsrc
         have hx':VR Z (.slice (some (b,0)) n n) (.slice (some ⟨l.c,l.d+0*l.es,none⟩) n cap):=by
          simp only[VR]
          exact⟨l,cap,l.d,hl,lR _,hnc,.inl rfl,lR _,by simpa using hroom,by simp⟩
         have happ:R9 P (B.set b (.cells (flat n row) i.size true te)) #[t,tx] (.slice (some (b,0)) n n) x =
           some (.slice (some (B.length,0)) (n+1) (n+1),(B.set b (.cells (flat n row) i.size true te)).set b .dead++[.cells (flat n row++new) i.size true te],[b]):=by
          simp only[R9,hu,hi,hz,hal,hsrc',hget]
          rw[if_pos hcond]
          simp only[Nat.reduceEqDiff,if_false]
          rw[if_pos ⟨by omega,hnew.1.2⟩]
          rw[if_neg (by simp),if_neg (by omega),if_pos (by rw[hlen]; omega)]
          simp only[List.drop_zero,List.length_set]
          rw[List.take_of_length_le (by omega)]
         obtain⟨Z',v',nx,w',g1,g2,g3,g4,g5,g6,g7⟩:=U7 (ty:=ty) hsh (by simpa using hd) happ hx' hy
         rw[List.set_set] at g3 g5 g7
         refine⟨Z',v',nx,w',g1,g2,by simpa using g3,?_,g5.last (fun l' hl' ho'=>?_) (by simp[AObj.own,hro]) rfl,by simp,by simpa using g7⟩
         ·simp only[VR] at g4 ⊢
          obtain⟨l',cap',off,k1,k2,k3,k4,k5,k6,rfl⟩:=g4
          have hoff:off=l'.d:=by rcases k4 with k4 | k4<;>omega
          subst hoff
          exact .inl ⟨by omega,l',cap',k1,by omega,by simpa using k6,by simp⟩
         ·exact OR.append hes (fun i hi=>(hrow i hi).1) hnew.2 ho'
        ·cases h
       ·cases h
      ·cases h
     ·cases h
    ·cases h
   ·cases h
  ·cases h
 ·cases h
theorem OR.text_cells{h:Array Obj}{l:Loc}{s:List UInt8}{ty:TypeId}:OR Z h l (.text s ty)↔OR Z h l (.cells (bytesOf s) 1 true ty):=Iff.rfl
theorem Sim.retext{h:Array Obj}(hs:Sim A Z B h){b:Nat}{s:List UInt8}{ty:TypeId}{l:Loc}(hb:B[b]?=some (.text s ty))(hl:Z b=some l):Sim A Z (B.set b (.cells (bytesOf s) 1 true ty)) h :=
 hs.upd hb hl rfl rfl (fun _ _=>rfl) (OR.text_cells.1 (hs.obj b _ l hb hl))
theorem Sim.snoc{h:Array Obj}(hs:Sim A Z B h)(hn:Z B.length=none)(o:AObj):Sim A Z (B++[o]) h:=by
 have hget:∀ (x:Nat) (p:AObj) (l:Loc),(B++[o])[x]?=some p->Z x=some l->B[x]?=some p:=fun x p l hp hl=>by
  rw[List.getElem?_append] at hp
  split at hp
  ·exact hp
  ·rename_i hlt
   by_cases e:x=B.length
   ·subst e; rw[hn] at hl; cases hl
   ·rw[gO (by simp; omega)] at hp; cases hp
 exact⟨fun x p l hx hl=>hs.obj x p l (hget x p l hx hl) hl,hs.lt,fun x y l l' p p' hne hl hl' hx hy=>hs.own x y l l' p p' hne hl hl' (hget x p l hx hl) (hget y p' l' hy hl'),hs.amb,fun x l p hl hx=>hs.ownG x l p hl (hget x p l hx hl),hs.gLe,hs.fzOK,fun c v x l p hc hl hx=>hs.fzSep c v x l p hc hl (hget x p l hx hl)⟩
theorem Step.grow{n n' n2:Nat}{Z':Emb}{D:List Nat}{w w':World}(h:Step Z Z' n n' D w w')(hn:n'<=n2):Step Z Z' n n2 D w w' :=
 ⟨h.ext,fun b l p q=>let ⟨p1,p2,p3⟩:=h.dom b l p q; ⟨p1,by omega,p3⟩,h.size,h.keep,h.loops,h.defs,h.tape,h.os,h.out,h.fdom⟩
theorem A7a:∀ s:List UInt8,A1u (bytesOf s)=some s
 | []=>rfl
 | b::r=>by
  have:=A7a r
  simp only[bytesOf,List.map_cons] at this ⊢
  simp only[A1u]
  rw[this]
  simp
theorem C1p{tx:TypeId}{x:AV}{u:List UInt8}{x':Value}{b:Nat}{s:List UInt8}{ty:TypeId}(hb:B[b]?=some (.text s ty))(o:AObj)(h:E4t P B tx x=some (true,u))(hx:VR Z x x') :
  A4s P tx=true/\∃ y new,VR Z y x'/\B5j y=some u.length/\A7m (B.set b o) 1 u.length y=some new/\new.all one=true/\new.length=u.length /\
   ∀ (Z2:Emb) (i:Nat) (a':AV),(bytesOf u)[i]?=some a'->∃ a,new[i]?=some a/\∀ v,VR Z2 a v->VR Z2 a' v:=by
 have hstr:∀ t:List UInt8,P.underlying tx=some .string->(∃ b:ByteArray,b.data.toList=t/\x'=.string b)->u=t->A4s P tx=true/\∃ y new,VR Z y x'/\B5j y=some u.length/\A7m (B.set b o) 1 u.length y=some new/\new.all one=true/\new.length=u.length /\
   ∀ (Z2:Emb) (i:Nat) (a':AV),(bytesOf u)[i]?=some a'->∃ a,new[i]?=some a/\∀ v,VR Z2 a v->VR Z2 a' v:=fun t hu hv e=>by
  subst e
  refine⟨by simp[A4s,hu],.str u,bytesOf u,by simp only[VR]; exact hv,rfl,?_,?_,by simp[bytesOf],fun Z2 i a' hi=>⟨a',hi,fun _ h=>h⟩⟩
  ·simp only[A7m,if_true]
   rw[List.take_of_length_le (by simp[bytesOf])]
  ·rw[List.all_eq_true]
   intro a ha
   simp only[bytesOf,List.mem_map] at ha
   obtain⟨_,_,rfl⟩:=ha
   rfl
 unfold E4t at h
 split at h
 ·rename_i t hu; cases h; simp only[VR] at hx; exact hstr _ hu hx rfl
 ·rename_i t hu; cases h; simp only[VR] at hx; exact hstr _ hu hx rfl
 ·rename_i t _ _ hu; cases h; simp only[VR] at hx; exact hstr _ hu hx.1 rfl
 ·rename_i e bx ox m hu
  split at h
  ·rename_i v hld
   split at h
   ·rename_i k hk
    simp only[sI,pI,dQ] at h
    obtain⟨⟨k0,k1⟩,rfl⟩:=h
    have hne:b≠bx:=fun e=>by subst e; simp[ldN,hb] at hld
    refine⟨by simp[A4s,hu],.slice (some (bx,ox)) 1 m,[v],hx,rfl,?_,?_,rfl,fun Z2 i a' hi=>?_⟩
    ·simp only[A7m,List.length_singleton,Nat.mul_one,ldN]
     rw[List.getElem?_set,if_neg hne]
     exact hld
    ·cases v<;>simp[Q9] at hk<;>simp[one]
    ·cases i with
     | zero =>
      simp only[bytesOf,List.map_cons,List.map_nil,List.getElem?_cons_zero,sI] at hi
      subst hi
      refine⟨v,rfl,fun y hy=>?_⟩
      have:=L6 hk hy
      subst this
      simp only[VR]
      congr 1
      have:(k.toNat.toUInt8).toNat=k.toNat:=by
       show(UInt8.ofNat k.toNat).toNat=k.toNat
       exact UInt8.toNat_ofNat_of_lt' (show k.toNat<256 by omega)
      rw[this]; omega
     | succ i=>simp[bytesOf] at hi
   ·cases h
  ·cases h
 ·cases h
theorem B7u{t tx ty:TypeId}{b n:Nat}{x v:AV}{s' x':Value}{B':Heap}{D:List Nat}(hs:Sim A Z B w.heap)(hd:Dom Z B.length)(h:A7p P B t tx b n x=some (true,v,B',D))(hx:VR Z (.sslice b 0 n) s')(hy:VR Z x x'):Got P A Z B w (do pure (.value (<- Builtin.append_ #[t,tx] ty #[s',x']))) v B' D:=by
 unfold A7p at h
 split at h
 case h_2=>cases h
 rename_i e hu
 split at h
 case h_2=>cases h
 rename_i i zc hi hz
 split at h
 case isFalse=>cases h
 rename_i hcond
 obtain⟨hc1,hc2,hc3⟩:=hcond
 split at h
 case h_2=>cases h
 rename_i c u hat
 split at h
 case h_2=>cases h
 rename_i s te hb
 split at h
 case isFalse=>cases h
 rename_i hte
 subst hte
 simp only[sI,pI,bA,dQ] at h
 obtain⟨⟨rfl,rfl,hlen⟩,rfl,rfl,rfl⟩:=h
 have hbl:b<B.length:=(gS.1 hb).1
 have hcond:zc.length=i.size/\0<i.size/\i.bytes<=2^12:=⟨hc1,by omega,hc3⟩
 have fin:∀ (cs:List AV) (Z2:Emb) (hh:Array Obj) (l:Loc),cs.length=(s++u).length->(∀ (j:Nat) (a':AV),(bytesOf (s++u))[j]?=some a'->∃ a,cs[j]?=some a/\∀ v,VR Z2 a v->VR Z2 a' v)->OR Z2 hh l (.cells cs 1 true te)->OR Z2 hh l (.text (s++u) te):=by
  intro cs Z2 hh l hl hw ho
  obtain⟨h0,arr,e,fz,h1,h2,h3,h4,h5⟩:=ho
  refine⟨h0,arr,e,fz,h1,h2,by simp only[bytesOf,List.length_map]; rw[<- hl]; exact h3,fun j a' hj=>?_,fun ht=>⟨fun he=>by omega,(h5 ht).2⟩⟩
  obtain⟨a,q1,q2⟩:=hw j a' hj
  obtain⟨v,p1,p2⟩:=h4 j a q1
  exact⟨v,p1,q2 v p2⟩
 have hbs:bytesOf (s++u)=bytesOf s++bytesOf u:=by simp[bytesOf]
 have hbl1:(bytesOf s).length=s.length:=by simp[bytesOf]
 simp only[VR] at hx
 rcases hx with⟨hn0,l,cap,hl,hnc,hroom,rfl⟩ | ⟨hn0,rfl⟩
 ·-- a list that is there
  obtain⟨hles,_⟩:=hs.obj b _ l hb hl
  obtain⟨hst,y,new,g1,g2,g3,g4,g5,g6⟩:=C1p hb (.cells (bytesOf s) 1 true te) hat hy
  have hs1:=hs.retext hb hl
  have hget:(B.set b (.cells (bytesOf s) 1 true te))[b]?=some (.cells (bytesOf s) 1 true te):=by rw[List.getElem?_set]; simp[hbl]
  have hx':VR Z (.slice (some (b,0)) s.length s.length) (.slice (some ⟨l.c,l.d+0*l.es,none⟩) s.length cap):=by
   simp only[VR]
   exact⟨l,cap,l.d,hl,lR _,hnc,.inl rfl,lR _,by simpa using hroom,by simp⟩
  by_cases hu0:u.length=0
  ·have hun:u=[]:=List.eq_nil_of_length_eq_zero hu0
   subst hun
   have happ:R9 P (B.set b (.cells (bytesOf s) 1 true te)) #[t,tx] (.slice (some (b,0)) s.length s.length) y=some (.slice (some (b,0)) s.length s.length,B.set b (.cells (bytesOf s) 1 true te),[]):=by
    simp only[R9,hu,hi,hz,g2]
    rw[if_pos ⟨hcond.1,hcond.2.1,hcond.2.2,hst⟩,hc2,g3]
    simp
   obtain⟨Z',v',nx,w',k1,k2,k3,k4,k5,k6,k7⟩:=U7 (ty:=ty) hs1 (by simpa using hd) happ hx' g1
   have hnl:Z' B.length=none:=k7 _ (by simp)
   have hl':Z' b=some l:=k3.ext b l hl
   refine⟨Z'.put B.length l,v',nx,w',k1,k2,?_,?_,?_,by simp,?_⟩
   ·have k3':Step Z Z' B.length B.length [] w w':=by simpa using k3
    refine⟨Emb.le_trans k3'.ext (Emb.le_put hnl),fun x lx p q=>?_,k3'.size,fun c hc hD=>k3'.keep c hc (fun _ h=>by cases h),k3'.loops,k3'.defs,k3'.tape,k3'.os,k3'.out,fun c v p q=>(k3'.fdom c v p q).elim .inl fun⟨_,h,_⟩=>by cases h⟩
    by_cases e:x=B.length
    ·subst e
     rw[Emb.put_self] at q; cases q
     exact⟨lR _,by simp,.inr ⟨b,by simp,l,hl,rfl⟩⟩
    ·rw[Emb.put_ne e] at q
     obtain⟨p1,p2,_⟩:=k3'.dom x lx p q
     omega
   ·simp only[VR] at k4 ⊢
    obtain⟨l2,cap',off,q1,q2,q3,q4,q5,q6,rfl⟩:=k4
    rw[hl'] at q1; cases q1
    have hoff:off=l.d:=by rcases q4 with q4 | q4<;>omega
    subst hoff
    exact .inl ⟨by simpa using hn0,l,cap',Emb.put_self _ _ _,by simp; omega,by simpa using q6,by simp⟩
   ·have hne:b≠B.length:=by omega
    have:=Sim.move (l':=l) k5 (by simpa using hnl) hget hl' rfl rfl (fun _ _=>rfl) rfl (o':=.text (s++[]) te) (by
     have:=k5.obj b _ l hget hl'
     rw[List.append_nil]
     have h2:OR (Z'.put (B.set b (.cells (bytesOf s) 1 true te)).length l) w'.heap l (.cells (bytesOf s) 1 true te):=this.keep (Emb.le_put (by simpa using hnl)) rfl
     exact h2)
    simpa using this
   ·intro x hx
    simp only[lA,List.length_set,List.length_singleton] at hx
    rw[Emb.put_ne (by omega)]
    exact k7 x (by simp; omega)
  ·have happ:R9 P (B.set b (.cells (bytesOf s) 1 true te)) #[t,tx] (.slice (some (b,0)) s.length s.length) y =
     some (.slice (some (B.length,0)) (s.length+u.length) (s.length+u.length),(B.set b (.cells (bytesOf s) 1 true te)).set b .dead++[.cells (bytesOf s++new) 1 true te],[b]):=by
    simp only[R9,hu,hi,hz,g2]
    rw[if_pos ⟨hcond.1,hcond.2.1,hcond.2.2,hst⟩,hc2,g3]
    simp only[if_neg hu0]
    rw[if_pos ⟨by omega,g4⟩]
    simp only[hget]
    rw[if_neg (by simp),if_neg (by omega),if_pos (by rw[hbl1]; omega)]
    simp only[List.drop_zero,List.length_set,Nat.mul_one]
    rw[List.take_of_length_le (by rw[hbl1]; omega)]
   obtain⟨Z',v',nx,w',k1,k2,k3,k4,k5,k6,k7⟩:=U7 (ty:=ty) hs1 (by simpa using hd) happ hx' g1
   rw[List.set_set] at k3 k5 k7
   refine⟨Z',v',nx,w',k1,k2,by simpa using k3,?_,k5.last (fun l' hl' ho'=>?_) rfl rfl,by simp,by simpa using k7⟩
   ·simp only[VR] at k4 ⊢
    obtain⟨l',cap',off,q1,q2,q3,q4,q5,q6,rfl⟩:=k4
    have hoff:off=l'.d:=by rcases q4 with q4 | q4<;>omega
    subst hoff
    exact .inl ⟨by omega,l',cap',q1,by omega,by simpa using q6,by simp⟩
   ·refine fin _ _ _ _ (by simp[bytesOf,g5]) (fun j a' hj=>?_) ho'
    rw[hbs,List.getElem?_append] at hj
    rw[List.getElem?_append]
    split at hj
    ·rename_i hlt; rw[if_pos hlt]; exact⟨a',hj,fun _ h=>h⟩
    ·rename_i hlt; rw[if_neg hlt]; exact g6 Z' _ a' hj
 ·-- nil
  have hs0:s=[]:=List.eq_nil_of_length_eq_zero hn0
  subst hs0
  have hs1:Sim A Z (B.set b AObj.dead) w.heap:=hs.kill b
  obtain⟨hst,y,new,g1,g2,g3,g4,g5,g6⟩:=C1p hb AObj.dead hat hy
  have hx':VR Z (.slice none 0 0) (.slice none 0 0):=by simp[VR]
  have hd1:Dom Z (B.set b AObj.dead).length:=by simpa using hd
  by_cases hu0:u.length=0
  ·have hun:u=[]:=List.eq_nil_of_length_eq_zero hu0
   subst hun
   have happ:R9 P (B.set b AObj.dead) #[t,tx] (.slice none 0 0) y=some (.slice none 0 0,B.set b AObj.dead,[]):=by
    simp only[R9,hu,hi,hz,g2]
    rw[if_pos ⟨hcond.1,hcond.2.1,hcond.2.2,hst⟩,hc2,g3]
    simp
   obtain⟨Z',v',nx,w',k1,k2,k3,k4,k5,k6,k7⟩:=U7 (ty:=ty) hs1 hd1 happ hx' g1
   have k3':Step Z Z' B.length B.length [] w w':=by simpa using k3
   refine⟨Z',v',nx,w',k1,k2,by simpa using(k3'.dirty (D2:=[b]) (by simp)).grow (n2:=B.length+1) (by omega),?_,k5.snoc (k7 _ (by simp)) _,by simp,fun x hx=>k7 x (by simp at hx ⊢; omega)⟩
   simp only[VR] at k4 ⊢
   exact .inr ⟨rfl,k4.2.2⟩
  ·have happ:R9 P (B.set b AObj.dead) #[t,tx] (.slice none 0 0) y=some (.slice (some (B.length,0)) u.length u.length,B.set b AObj.dead++[.cells new 1 true te],[]):=by
    simp only[R9,hu,hi,hz,g2]
    rw[if_pos ⟨hcond.1,hcond.2.1,hcond.2.2,hst⟩,hc2,g3]
    simp only[if_neg hu0]
    simp at hlen
    rw[if_pos ⟨by omega,g4⟩]
    simp
   obtain⟨Z',v',nx,w',k1,k2,k3,k4,k5,k6,k7⟩:=U7 (ty:=ty) hs1 hd1 happ hx' g1
   have k3':Step Z Z' B.length (B.length+1) [] w w':=by simpa using k3
   refine⟨Z',v',nx,w',k1,k2,by simpa using k3'.dirty (D2:=[b]) (by simp),?_,k5.last (fun l' hl' ho'=>?_) rfl rfl,by simp,by simpa using k7⟩
   ·simp only[VR] at k4 ⊢
    obtain⟨l',cap',off,q1,q2,q3,q4,q5,q6,rfl⟩:=k4
    have hoff:off=l'.d:=by rcases q4 with q4 | q4<;>omega
    subst hoff
    exact .inl ⟨by simp; omega,l',cap',by simpa using q1,by simp; omega,by simpa using q6,by simp⟩
   ·exact fin _ _ _ _ (by simp[g5]) (fun j a' hj=>g6 Z' j a' (by simpa using hj)) ho'
theorem B7t{ts:Array TypeId}{ty:TypeId}{b n:Nat}{m v:AV}{p' m':Value}{B':Heap}{D:List Nat}(hs:Sim A Z B w.heap)(hd:Dom Z B.length)(h:A7o P B ts b n m=some (true,v,B',D))(hx:VR Z (.dptr b n) p')(hy:VR Z m m'):Got P A Z B w (do pure (.value (<- Builtin.unsafeString_ ts ty #[p',m']))) v B' D:=by
 unfold A7o at h
 split at h
 case h_2=>cases h
 rename_i mm u s ty2 hm ht hb
 split at h
 case isFalse=>cases h
 rename_i hc
 simp only[sI,pI,dQ] at h
 obtain⟨⟨rfl,rfl,hlt⟩,rfl,rfl,rfl⟩:=h
 have hy2:VR Z (.int .i64 (s.length:Int)) m':=by simp only[VR]; exact L6 hm hy
 simp only[VR] at hx
 rcases hx with⟨h0,l,hl,rfl⟩ | ⟨hn0,rfl⟩
 ·have hs1:=hs.retext hb hl
  have hbl:b<B.length:=(gS.1 hb).1
  have hget:(B.set b (.cells (bytesOf s) 1 true ty2))[b]?=some (.cells (bytesOf s) 1 true ty2):=by rw[List.getElem?_set]; simp[hbl]
  have hp:VR Z (.ptr (some (b,0))) (.pointer (some ⟨l.c,l.d,none⟩)):=by simp only[VR]; exact⟨l,hl,by simp⟩
  have happ:Q0 P (B.set b (.cells (bytesOf s) 1 true ty2)) ts (.ptr (some (b,0))) (.int .i64 (s.length:Int))=some (.str s,(B.set b (.cells (bytesOf s) 1 true ty2)).set b (.cells (bytesOf s) 1 false ty2),[b]):=by
   simp only[Q0,ht,hget]
   rw[if_pos ⟨by omega,by omega,hc.1,hc.2⟩]
   simp only[ldN,hget,tN]
   rw[if_pos (by simp[bytesOf])]
   simp only[List.drop_zero]
   rw[List.take_of_length_le (by simp[bytesOf]),A7a]
   rfl
  obtain⟨Z',v',nx,w',k1,k2,k3,k4,k5,k6,k7⟩:=A0d (ty:=ty) hs1 (by simpa using hd) happ hp hy2
  rw[List.set_set] at k3 k5 k7
  refine⟨Z',v',nx,w',k1,k2,by simpa using k3,by simpa only[VR] using k4,?_,by simp,by simpa using k7⟩
  have:=k5.kill b
  rwa [List.set_set] at this
 ·have hs0:s=[]:=List.eq_nil_of_length_eq_zero hn0
  subst hs0
  obtain⟨t1,t2,rfl⟩:∃ t1 t2,ts=#[t1,t2]:=by
   split at ht
   ·rename_i a c hl; exact⟨a,c,by apply Array.ext'; simpa using hl⟩
   ·cases ht
  have hp:VR Z (.ptr none) (.pointer none):=by simp[VR]
  have happ:Q0 P (B.set b AObj.dead) #[t1,t2] (.ptr none) (.int .i64 0)=some (.str [],B.set b AObj.dead,[]):=rfl
  obtain⟨Z',v',nx,w',k1,k2,k3,k4,k5,k6,k7⟩:=A0d (ty:=ty) (hs.kill b) (by simpa using hd) happ hp hy2
  have k3':Step Z Z' B.length B.length [] w w':=by simpa using k3
  exact⟨Z',v',nx,w',k1,k2,by simpa using k3'.dirty (D2:=[b]) (by simp),by simpa only[VR] using k4,k5,by simp,k7⟩
theorem C9v{o:Oper}{U:Operand->AV}{U':Operand->Value}{v:AV}{B':Heap}{D:List Nat}(h:L8 P U B o.op=some (true,v,B',D))(hs:Sim A Z B w.heap)(hd:Dom Z B.length)(hU:∀ x,VR Z (U x) (U' x)):Got P A Z B w (execOp U' o) v B' D:=by
 obtain⟨dst,op,ty,pos,after,guard⟩:=o
 cases op with
 | load t a =>
  simp only[L8] at h
  split at h
  ·rename_i b i j ha
   simp only[oM,pI] at h
   obtain⟨⟨c,v'⟩,h1,rfl,rfl,rfl,rfl⟩:=h
   have hx:=hU a
   rw[ha] at hx
   exact F6 (s:=Instr.loadAt t (U' a)) hs hd (rfl:only B (some v')=_) fun v hv=>by cases hv; exact C4v hs h1 hx
  ·cases h
 | indexAddr t x i =>
  simp only[L8] at h
  split at h
  ·rename_i b s n hxv
   split at h
   ·rename_i e k m mm row es te hu hm hb
    split at h
    ·rename_i hes
     simp only[sI,pI,dQ] at h
     obtain⟨hin,rfl,rfl,rfl⟩:=h
     have hx:=hU x
     rw[hxv] at hx
     simp only[VR] at hx
     obtain⟨l,cap,hl,hnc,hroom,hxe⟩:∃ l cap,Z b=some l/\n<=cap/\l.d+s*l.es+cap*l.es<=l.n/\U' x=.slice (some ⟨l.c,l.d+s*l.es,none⟩) n cap:=by
      rcases hx with⟨_,hx⟩ | ⟨rfl,_⟩
      ·exact hx
      ·omega
     obtain⟨_,hles,_⟩:=hs.obj b _ l hb hl
     have hx':VR Z (.slice (some (b,s*l.es)) n n) (U' x):=by
      simp only[VR]
      exact⟨l,cap,l.d+s*l.es,hl,lR _,hnc,.inl rfl,by omega,hroom,hxe⟩
     have hi:VR Z (.int k m) (U' i):=by simp only[VR]; exact L6 hm (hU i)
     have hidx:Y6 P t (.slice (some (b,s*l.es)) n n) (.int k m)=some (.ptr (some (b,s*l.es+m.toNat*l.es))):=by
      simp only[Y6,hu,hes,if_pos hin,hles]
     obtain⟨y,p1,p2⟩:=Z7 (P:=P) (w:=w) hidx hx' hi
     refine F6 (s:=Instr.indexAt t (U' x) (U' i)) hs hd (rfl:only B (some (.sptr b (s+m.toNat) 0))=_) fun v hv=>?_
     cases hv
     refine⟨y,p1,?_⟩
     simp only[VR] at p2 ⊢
     obtain⟨l',q1,q2⟩:=p2
     rw[hl] at q1; cases q1
     exact⟨l,hl,by rw[q2,Nat.add_mul]; simp⟩
    ·cases h
   ·cases h
  ·cases h
 | fieldAddr t x f =>
  simp only[L8,V6,oM,pI] at h
  obtain⟨⟨c,v'⟩,h1,rfl,rfl,rfl,rfl⟩:=h
  split at h1
  ·rename_i b i j hxv
   split at h1
   ·rename_i fs hu
    split at h1
    ·rename_i fd hf
     split at h1
     ·rename_i n hn
      split at h1
      ·cases h1
      ·rename_i hn0
       simp only[sI,pI,true_and] at h1
       subst h1
       have hx:=hU x
       rw[hxv] at hx
       simp only[VR] at hx
       obtain⟨l,hl,hxe⟩:=hx
       have hx':VR Z (.ptr (some (b,i*l.es+j))) (U' x):=by simp only[VR]; exact⟨l,hl,hxe⟩
       have hfa:A3d P t (.ptr (some (b,i*l.es+j))) f=some (.ptr (some (b,i*l.es+j+fd.offset))):=by
        simp only[A3d,hu,hf,hn,if_neg hn0]
       obtain⟨y,p1,p2⟩:=A5c (P:=P) (w:=w) hfa hx'
       refine F6 (s:=Instr.fieldAt t (U' x) f) hs hd (rfl:only B (some (.sptr b i (j+fd.offset)))=_) fun v hv=>?_
       cases hv
       refine⟨y,p1,?_⟩
       simp only[VR] at p2 ⊢
       obtain⟨l',q1,q2⟩:=p2
       rw[hl] at q1; cases q1
       exact⟨l,hl,by rw[q2,Nat.add_assoc]⟩
     ·cases h1
    ·cases h1
   ·cases h1
  ·cases h1
 | nilCheck x =>
  simp only[L8,V6,oM,pI] at h
  obtain⟨⟨c,v'⟩,h1,rfl,rfl,rfl,rfl⟩:=h
  split at h1
  ·rename_i b i j hxv
   simp only[sI,pI,true_and] at h1
   subst h1
   have hx:=hU x
   rw[hxv] at hx
   have hx':=hx
   simp only[VR] at hx'
   obtain⟨l,hl,hxe⟩:=hx'
   refine⟨Z,U' x,.value (U' x),w,?_,.inl rfl,.refl _ _ _,hx,hs,lR _,hd⟩
   show(match U' x with
    | .pointer none | .nilIface | .nilFunc=>runtimePanic .nilDeref
    | .func (.method name) first captured=>_
    | x=>pure (.value x):Sem Next).run P w=_
   rw[hxe]; rfl
  ·cases h1
 | call c =>
  obtain⟨callee,args,ats⟩:=c
  cases callee with
  | value f=>simp[L8,V6] at h
  | invoke x m=>simp[L8,V6] at h
  | builtin bi =>
   have hxs:=VRL.map U U' hU args.toList
   have e:(args.toList.map U').toArray=args.map U':=by apply Array.ext'; simp
   cases bi with
   | len =>
    simp only[L8] at h
    split at h
    ·rename_i b s n hargs
     split at h
     ·rename_i el hu
      simp only[sI,pI,true_and] at h
      obtain⟨rfl,rfl,rfl⟩:=h
      rw[hargs] at hxs
      simp only[VRL] at hxs
      obtain⟨x,l0,hx1,hx,rfl⟩:=hxs
      have hx0:=hx
      simp only[VR] at hx
      obtain⟨xa,hx',hal⟩:∃ xa,VR Z xa x/\V5 P B ats xa=some (.int .i64 n):=by
       rcases hx with⟨_,l,cap,hl,hnc,hroom,hxe⟩ | ⟨rfl,rfl⟩
       ·refine⟨.slice (some (b,s*l.es)) n n,?_,by simp only[V5,hu]⟩
        simp only[VR]
        exact⟨l,cap,l.d+s*l.es,hl,lR _,hnc,.inl rfl,by omega,hroom,hxe⟩
       ·exact⟨.slice none 0 0,by simp[VR],by simp[V5,hu]⟩
      obtain⟨y,p1,p2⟩:=A4t (P:=P) (w:=w) (ty:=ty) hs hal hx'
      have:=Got.of_pure (P:=P) (v:=.sint .i64 n) hs hd ⟨y,p1,by simpa only[VR] using p2⟩
      have hm:args.map U'=#[x]:=by rw[<- e,hx1]
      show Got P A Z B w (builtin .len ats ty (args.map fun | .const _=>true | _=>false) (args.map U')) _ _ _
      rw[hm]
      exact this
     ·cases h
    ·cases h
   | append =>
    simp only[L8] at h
    split at h
    ·rename_i b n x t tx hargs hats
     rw[hargs] at hxs
     simp only[VRL] at hxs
     obtain⟨s',l0,hx1,hx,x',l1,rfl,hy,rfl⟩:=hxs
     have hts:ats=#[t,tx]:=by apply Array.ext'; simpa using hats
     subst hts
     have:Got P A Z B w (do pure (.value (<- Builtin.append_ #[t,tx] ty #[s',x']))) v B' D:=by
      split at h
      ·exact B7u (ty:=ty) hs hd h hx hy
      ·exact B7v (ty:=ty) hs hd h hx hy
     have hm:args.map U'=#[s',x']:=by rw[<- e,hx1]
     show Got P A Z B w (builtin .append #[t,tx] ty (args.map fun | .const _=>true | _=>false) (args.map U')) _ _ _
     rw[hm]
     exact this
    ·cases h
   | unsafeSliceData =>
    simp only[L8] at h
    split at h
    ·rename_i b n hargs
     simp only[sI,pI,true_and] at h
     obtain⟨rfl,rfl,rfl⟩:=h
     rw[hargs] at hxs
     simp only[VRL] at hxs
     obtain⟨x,l0,hx1,hx,rfl⟩:=hxs
     simp only[VR] at hx
     obtain⟨xa,va,hx',hal,hv⟩:∃ xa va,VR Z xa x/\A3j xa=some va/\∀ y,VR Z va y->VR Z (.dptr b n) y:=by
      rcases hx with⟨h0,l,cap,hl,hnc,hroom,hxe⟩ | ⟨rfl,rfl⟩
      ·refine⟨.slice (some (b,0)) n n,.ptr (some (b,0)),?_,by simp[A3j,h0],fun y hy=>?_⟩
       ·simp only[VR]
        exact⟨l,cap,l.d,hl,lR _,hnc,.inl rfl,lR _,by simpa using hroom,by simpa using hxe⟩
       ·simp only[VR] at hy ⊢
        obtain⟨l2,q1,q2⟩:=hy
        exact .inl ⟨h0,l2,q1,by simpa using q2⟩
      ·exact⟨.slice none 0 0,.ptr none,by simp[VR],rfl,fun y hy=>by simp only[VR] at hy ⊢; subst hy; simp⟩
     obtain⟨y,p1,p2⟩:=A5f (P:=P) (w:=w) (ts:=ats) (ty:=ty) hal hx'
     have:=Got.of_pure (P:=P) (v:=.dptr b n) hs hd ⟨y,p1,hv y p2⟩
     have hm:args.map U'=#[x]:=by rw[<- e,hx1]
     show Got P A Z B w (builtin .unsafeSliceData ats ty (args.map fun | .const _=>true | _=>false) (args.map U')) _ _ _
     rw[hm]
     exact this
    ·cases h
   | unsafeString =>
    simp only[L8] at h
    split at h
    ·rename_i b n m hargs
     rw[hargs] at hxs
     simp only[VRL] at hxs
     obtain⟨p',l0,hx1,hx,x',l1,rfl,hy,rfl⟩:=hxs
     have:=B7t (ty:=ty) hs hd h hx hy
     have hm:args.map U'=#[p',x']:=by rw[<- e,hx1]
     show Got P A Z B w (builtin .unsafeString ats ty (args.map fun | .const _=>true | _=>false) (args.map U')) _ _ _
     rw[hm]
     exact this
    ·cases h
   | _=>simp[L8,V6] at h
 | _=>simp[L8,V6] at h
end
end Go.Ad
