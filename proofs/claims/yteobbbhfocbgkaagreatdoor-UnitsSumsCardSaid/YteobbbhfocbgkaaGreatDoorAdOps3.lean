/- The abstract evaluator's operations stand for the model's: literals, slices, conversions, equality. -/
import Derived.Test.YteobbbhfocbgkaaGreatDoorAdOps2
namespace Go.Ad
section
variable {P:Program} {A:Amb} {ι:Emb} {B:Heap} {w:World}
theorem foldl_setN:∀ (vs:List Value) (off j:Nat) (cells:Array Value),
  ((vs.zipIdx j).foldl (fun cs (c,j)=>cs.setIfInBounds (off+j) c) cells).toList=setN cells.toList (off+j) vs
 | [],_,_,_=>rfl
 | v :: vs,off,j,cells=>by
  simp only [List.zipIdx_cons,List.foldl_cons,setN]
  rw [foldl_setN vs off (j+1)]
  simp [Nat.add_assoc]
theorem foldl_setN' (vs:Array Value) (off:Nat) (cells:Array Value) :
  (vs.zipIdx.foldl (fun cs (c,j)=>cs.setIfInBounds (off+j) c) cells).toList=setN cells.toList off vs.toList:=by
 have:=foldl_setN vs.toList off 0 cells
 rw [← Array.foldl_toList,Array.toList_zipIdx]
 simpa using this
theorem setN_VRL:∀ {vs cs:List AV} {xs ys:List Value} (o:Nat),VRL ι cs ys→VRL ι vs xs→VRL ι (setN cs o vs) (setN ys o xs)
 | [],_,xs,_,_,h,h'=>by simp only [VRL] at h'; subst h'; exact h
 | v :: vs,_,xs,_,o,h,h'=>by
  simp only [VRL] at h'
  obtain ⟨x,xs,rfl,h1,h2⟩:=h'
  simp only [setN]
  exact setN_VRL (o+1) (h.set o h1) h2
inductive PartsR (ι:Emb):List (Nat × AV)→List (Nat × Value)→Prop
 | nil:PartsR ι [] []
 | cons (i:Nat) {a:AV} {v:Value} {l:List (Nat × AV)} {m:List (Nat × Value)}:VR ι a v→PartsR ι l m→PartsR ι ((i,a) :: l) ((i,v) :: m)
theorem PartsR.map {f:Operand→AV} {g:Operand→Value} (h:∀ x,VR ι (f x) (g x)):∀ l:List (Nat × Operand),PartsR ι (l.map fun (i,x)=>(i,f x)) (l.map fun (i,x)=>(i,g x))
 | []=>.nil
 | (i,x) :: l=>.cons i (h x) (PartsR.map h l)
theorem afill_sound {place:Nat→Option (Nat × Nat)}:∀ {ps:List (Nat × AV)} {qs:List (Nat × Value)} {cells out:List AV} {xs:Array Value},
  afill place cells ps=some out→PartsR ι ps qs→VRL ι cells xs.toList→∃ ys,Instr.fill place xs qs=some ys∧VRL ι out ys.toList:=by
 intro ps
 induction ps with
 | nil =>
  intro qs cells out xs h hp hx
  cases hp
  simp only [afill,Option.some.injEq] at h; subst h
  exact ⟨xs,rfl,hx⟩
 | cons p ps ih =>
  intro qs cells out xs h hp hx
  cases hp with
  | cons _ hv hp =>
   rename_i i' a v m
   simp only [afill] at h
   split at h
   ·simp at h
   ·rename_i off size hpl
    split at h
    ·simp at h
    ·rename_i hbad
     split at h
     ·simp at h
     ·rename_i hsz
      have hb:a ≠ .bad:=fun e=>hbad (by subst e; rfl)
      have hc:=acells_VR hb hv
      have hl:=hc.length
      have hxl:=hx.length
      obtain ⟨ys,h1,h2⟩:=ih (xs:=v.cells.zipIdx.foldl (fun cs (c,j)=>cs.setIfInBounds (off+j) c) xs) h hp (by rw [foldl_setN']; exact setN_VRL off hx hc)
      refine ⟨ys,?_,h2⟩
      simp only [Instr.fill,hpl]
      rw [if_neg,h1]
      simp only [Array.length_toList] at hl hxl
      simp; omega
theorem places_sound:∀ {fs:List Field} {ps:List (Nat × Nat)},placesOf P fs=some ps→∀ w,(fs.mapM fun f=>do pure (f.offset,← sizeOf f.type):Sem (List (Nat × Nat))).run P w=.ok ps w
 | [],ps,h,w=>by simp [placesOf] at h; subst h; rfl
 | f :: fs,ps,h,w=>by
  simp only [placesOf] at h
  split at h
  ·rename_i n r hn hr
   cases h
   simp only [List.mapM_cons,Sem.run_bind,szOf hn,Result.andThen_ok,Sem.run_pure,places_sound hr w]
  ·simp at h
theorem abuild_sound {t:TypeId} {ps:List (Nat × AV)} {qs:Array (Nat × Value)} {v:AV} (h:abuild P t ps=some v) (hp:PartsR ι ps qs.toList) :
  Pure P w ι (Instr.build t qs) v:=by
 unfold abuild at h
 split at h
 ·rename_i fs z hu hz
  obtain ⟨zv,z1,z2⟩:=zero_run hz w
  split at h
  ·rename_i pl hpl
   simp only [Option.map_eq_some_iff] at h
   obtain ⟨out,h1,rfl⟩:=h
   obtain ⟨ys,h2,h3⟩:=afill_sound (xs:=zv.cells) h1 hp (by rw [← z2]; exact absL_VR _ _)
   refine ⟨.agg ys,?_,by simp only [VR]; exact ⟨_,rfl,h3⟩⟩
   have hm:(fs.mapM fun f=>do pure (f.offset,← sizeOf f.type):Sem (Array (Nat × Nat))).run P w=.ok pl.toArray w:=by
    rw [Array.mapM_eq_mapM_toList]; simp only [Sem.run_map,places_sound hpl w,Result.andThen_ok]
   simp only [Instr.build,Sem.run_bind,z1,Result.andThen_ok,und hu,hm]
   have hget:(fun i:Nat=>pl.toArray[i]?)=fun i:Nat=>pl[i]?:=by funext i; simp
   simp only [hget,h2,Sem.run_pure]
  ·simp at h
 ·rename_i n e z hu hz
  obtain ⟨zv,z1,z2⟩:=zero_run hz w
  split at h
  ·rename_i k hk
   simp only [Option.map_eq_some_iff] at h
   obtain ⟨out,h1,rfl⟩:=h
   obtain ⟨ys,h2,h3⟩:=afill_sound (xs:=zv.cells) h1 hp (by rw [← z2]; exact absL_VR _ _)
   refine ⟨.agg ys,?_,by simp only [VR]; exact ⟨_,rfl,h3⟩⟩
   simp only [Instr.build,Sem.run_bind,z1,Result.andThen_ok,und hu,szOf hk,h2,Sem.run_pure]
  ·simp at h
 ·simp at h
theorem zeros_VRL {z:List AV} {zv:Array Value} {n:Nat} (hz:VRL ι z zv.toList) (h0:0 < z.length) :
  VRL ι (zeros z n) ((Array.range (n*zv.size)).map (zv[· % zv.size]!)).toList:=by
 have hl:=hz.length
 simp only [Array.length_toList] at hl
 unfold zeros
 split
 ·rename_i v
  simp only [VRL] at hz
  obtain ⟨x,xs,e,h1,rfl⟩:=hz
  have hx:zv=#[x]:=by apply Array.ext'; simpa using e
  subst hx
  have:((Array.range (n*(#[x]:Array Value).size)).map ((#[x]:Array Value)[· % (#[x]:Array Value).size]!)).toList=List.replicate n x:=by
   apply List.ext_getElem (by simp)
   intro i h1 h2
   simp [Nat.mod_one]
  rw [this]
  exact VRL.replicate h1 n
 ·refine .of_get (by simp [hl]) fun i x hi=>?_
  rw [List.getElem?_map] at hi
  simp only [Option.map_eq_some_iff] at hi
  obtain ⟨j,h1,rfl⟩:=hi
  have hjl:i < n*z.length∧j=i:=by
   rw [List.getElem?_eq_some_iff] at h1
   obtain ⟨p,q⟩:=h1
   simp at p q; exact ⟨p,q.symm⟩
  obtain ⟨hjl,rfl⟩:=hjl
  have hmod:j % z.length < z.length:=Nat.mod_lt _ h0
  obtain ⟨y,h2,h3⟩:=hz.get (i:=j % z.length) (List.getElem?_eq_getElem hmod)
  refine ⟨y,?_,?_⟩
  ·have hlt:j % zv.size < zv.size:=by rw [hl]; exact hmod
   have hjn:j < n*zv.size:=by rw [hl]; exact hjl
   simp only [Array.toList_map,List.getElem?_map,Array.toList_range,List.getElem?_range hjn,Option.map_some,Option.some.injEq]
   rw [getElem!_pos zv _ hlt]
   have:zv[j % z.length]?=some y:=by simpa using h2
   rw [Array.getElem?_eq_some_iff] at this
   obtain ⟨p,q⟩:=this
   simp only [hl]; exact q
  ·have e:z.getD (j % z.length) .bad=z[j % z.length]:=by simp [List.getD,List.getElem?_eq_getElem hmod]
   rw [e]; exact h3
theorem abuildSlice_sound {t:TypeId} {n:Nat} {ps:List (Nat × AV)} {qs:Array (Nat × Value)} {v:AV} {B':Heap} {D:List Nat} (hs:Sim A ι B w.heap) (hd:Dom ι B.length)
  (h:abuildSlice P B t n ps=some (v,B',D)) (hp:PartsR ι ps qs.toList):Got P A ι B w (do pure (.value (← Instr.buildSlice t n qs))) v B' D:=by
 unfold abuildSlice at h
 split at h
 ·rename_i e hu
  split at h
  ·rename_i k z hk hz
   split at h
   ·rename_i hc
    obtain ⟨c1,c2,c3⟩:=hc
    split at h
    ·rename_i cs hf
     cases h
     obtain ⟨zv,z1,z2⟩:=zero_run hz w
     have hzl:zv.cells.size=k:=by rw [← c1,← z2]; simp
     have hn:ι B.length=none:=hd _ (Nat.le_refl _)
     obtain ⟨ys,h2,h3⟩:=afill_sound (ι:=ι) (xs:=(Array.range (n*k)).map (zv.cells[· % zv.cells.size]!)) hf hp (by
      have:=zeros_VRL (ι:=ι) (z:=z) (zv:=zv.cells) (n:=n) (by rw [← z2]; exact absL_VR _ _) (by omega)
      rw [hzl] at this ⊢; exact this)
     refine got_new (obj:=.cells ys e (0,0)) (d:=0) (n:=ys.size) (es:=k) (y:=.slice (some ⟨w.heap.size,0,none⟩) n n) (k:=w.drawn) hs hd ?_
      (OR_new (h3.mono (Emb.le_put hn))) ?_
     ·simp only [Instr.buildSlice,Sem.run_bind,und hu,Result.andThen_ok,szOf hk,Sem.run_ite]
      rw [if_neg (by omega)]
      simp only [Sem.run_pure,Result.andThen_ok]
      by_cases h0:n*k=0
      ·have hne:n=0:=by rcases Nat.mul_eq_zero.1 h0 with h | h <;> omega
       subst hne
       simp only [Nat.zero_mul,if_true]
       have e1:(Array.range (0*k)).map (zv.cells[· % zv.cells.size]!)=(#[]:Array Value):=by simp
       have e2:(Array.range 0).map ((#[]:Array Value)[· % (#[]:Array Value).size]!)=(#[]:Array Value):=by simp
       rw [e1] at h2
       rw [e2,h2]
       simp [newRow]
      ·simp only [if_neg h0,Sem.run_bind,z1,Result.andThen_ok,Sem.run_pure,h2]
       simp [newRow]
     ·have hl:ys.size=n*k:=by
       have p:=h3.length
       have q:cs.length=(zeros z n).length:=by
        clear h2 h3 p
        have:∀ (ps:List (Nat × AV)) (c out:List AV),afill (fun i=>some (i*k,k)) c ps=some out→out.length=c.length:=by
         intro ps
         induction ps with
         | nil=>intro c out h; simp [afill] at h; simp [h]
         | cons p ps ih =>
          intro c out h
          obtain ⟨i,a⟩:=p
          simp only [afill] at h
          (repeat' split at h) <;> first | (simp at h; done) | (rw [ih _ _ h,setN_length])
        exact this _ _ _ hf
       have r:(zeros z n).length=n*z.length:=by
        unfold zeros; split
        ·simp
        ·simp
       simp at p; rw [p,q,r,c1]
      simp only [VR]
      exact ⟨_,n,0,Emb.put_self _ _ _,Nat.le_refl _,Nat.le_refl _,.inl rfl,Nat.le_refl _,by simp [hl],rfl⟩
    ·simp at h
   ·simp at h
  ·simp at h
 ·simp at h
theorem wrap_small {n:Int} (h0:0≤n) (h:n < 2 ^ 31):IntKind.i64.wrap n=n:=IntWalk.i64_in _ (by omega)
theorem amakeSlice_sound {t:TypeId} {a c v:AV} {x y:Value} {B':Heap} {D:List Nat} (hs:Sim A ι B w.heap) (hd:Dom ι B.length)
  (h:amakeSlice P B t a c=some (v,B',D)) (hx:VR ι a x) (hy:VR ι c y):Got P A ι B w (do pure (.value (← Instr.makeSlice t x y))) v B' D:=by
 unfold amakeSlice at h
 split at h
 ·rename_i e k l k' c hu
  simp only [VR] at hx hy
  subst hx hy
  split at h
  ·rename_i i z hi hz
   split at h
   ·rename_i hc
    obtain ⟨c1,c2,c3,c4,c5,c6⟩:=hc
    cases h
    obtain ⟨zv,z1,z2⟩:=zero_run hz w
    have hzl:zv.cells.size=i.size:=by rw [← c5,← z2]; simp
    have hn:ι B.length=none:=hd _ (Nat.le_refl _)
    have hcn:(c.toNat:Int)=c:=Int.toNat_of_nonneg (by omega)
    have hzz:VRL (ι.put B.length ⟨w.heap.size,0,((Array.range (c.toNat*i.size)).map (zv.cells[· % zv.cells.size]!)).size,i.size⟩) (zeros z c.toNat)
      ((Array.range (c.toNat*i.size)).map (zv.cells[· % zv.cells.size]!)).toList:=by
     have:=zeros_VRL (ι:=ι.put B.length ⟨w.heap.size,0,((Array.range (c.toNat*i.size)).map (zv.cells[· % zv.cells.size]!)).size,i.size⟩) (z:=z) (zv:=zv.cells) (n:=c.toNat)
      (by rw [← z2]; exact absL_VR _ _) (by omega)
     rw [hzl] at this ⊢; exact this
    refine got_new (obj:=.cells ((Array.range (c.toNat*i.size)).map (zv.cells[· % zv.cells.size]!)) e (0,0)) (d:=0)
     (n:=((Array.range (c.toNat*i.size)).map (zv.cells[· % zv.cells.size]!)).size) (es:=i.size)
     (y:=.slice (some ⟨w.heap.size,0,none⟩) l.toNat c.toNat) (k:=w.drawn) hs hd ?_ (OR_new hzz) ?_
    ·have hb:((i.bytes:Nat):Int)*c≤65536*2147483648:=by
      have h1:((i.bytes:Nat):Int)≤65536:=by omega
      exact Int.mul_le_mul h1 (by omega) (by omega) (by omega)
     have hwl:IntKind.i64.wrap l=l:=wrap_small c1 (by omega)
     have hwc:IntKind.i64.wrap c=c:=wrap_small (by omega) c3
     have hsz:size? P e=some i.size:=by simp [size?,hi]
     simp only [Instr.makeSlice,asInt,Sem.run_bind,und hu,Result.andThen_ok,asIntOf,Sem.run_pure,run_typeInfo w hi,hwl,hwc,Sem.run_ite]
     have hno:¬ ((decide (c < 0) || decide ((i.bytes:Int)*c > 2 ^ 48) || decide (l < 0) || decide (l > c))=true):=by
      simp; omega
     rw [if_neg (by simpa using hno)]
     simp only [run_askRoom,Result.andThen_ok,szOf hsz]
     by_cases h0:c.toNat*i.size=0
     ·have hc0:c.toNat=0:=by rcases Nat.mul_eq_zero.1 h0 with h | h <;> omega
      have r0:∀ f:Nat→Value,(Array.range 0).map f=#[]:=fun f=>by apply Array.ext'; simp
      simp [h0,newRow]
      rw [r0,r0]
     ·simp [h0,z1,newRow]
    ·simp only [VR]
     refine ⟨_,c.toNat,0,Emb.put_self _ _ _,by omega,Nat.le_refl _,.inl rfl,Nat.le_refl _,by simp,rfl⟩
   ·simp at h
  ·simp at h
 ·simp at h
end
end Go.Ad
