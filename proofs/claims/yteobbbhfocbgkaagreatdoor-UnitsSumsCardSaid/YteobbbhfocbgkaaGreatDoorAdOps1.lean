/- The abstract evaluator's operations stand for the model's: those that only compute and read. -/
import Derived.Test.YteobbbhfocbgkaaGreatDoorAdRel
import Derived.WalkKit
import Derived.ChangeKeysEq
namespace Go.Ad
def Pure (P:Program) (w:World) (ι:Emb) (s:Sem Value) (v:AV):Prop:=∃ y,s.run P w=.ok y w∧VR ι v y
section
variable {P:Program} {A:Amb} {ι:Emb} {B:Heap} {w:World}
theorem und {t:TypeId} {d:TypeDesc} (h:P.underlying t=some d) (w:World):(underlying t).run P w=.ok d w:=run_underlying h w
theorem szOf {t:TypeId} {n:Nat} (h:size? P t=some n) (w:World):(sizeOf t).run P w=.ok n w:=by
 unfold size? at h
 cases hi:P.info? t with
 | none=>simp [hi] at h
 | some i=>simp [hi] at h; rw [run_sizeOf w hi]; simp [Program.cellsOf,hi,h]
theorem isAgg_run {t:TypeId} {d:TypeDesc} (h:P.underlying t=some d) (w:World):(isAgg t).run P w=.ok (isAg d) w:=by
 unfold isAgg
 simp only [Sem.run_bind,und h,Result.andThen_ok]
 cases d <;> simp [isAg]
theorem cell_of {c off:Nat} {arr:Array Value} {e:TypeId} {fz:Nat × Nat} (h:w.heap[c]?=some (.cells arr e fz)):w.cell? ⟨c,off,none⟩=arr[off]?:=by
 simp [World.cell?,h]
theorem frozen_of {c off:Nat} {arr:Array Value} {e:TypeId} {fz:Nat × Nat} (h:w.heap[c]?=some (.cells arr e fz)) (hf:off < fz.1 ∨ fz.2≤off) :
  w.frozen? ⟨c,off,none⟩=false:=by
 simp only [World.frozen?,h]
 rcases hf with hf | hf <;> simp <;> omega
theorem add_none (c off n:Nat):(Addr.mk c off none).add n=⟨c,off+n,none⟩:=by
 unfold Addr.add; split <;> simp_all
theorem ld1_sound (hs:Sim A ι B w.heap) {b o:Nat} {a:AV} {l:Loc} (h:ld1 B b o=some a) (hl:ι b=some l) :
  ∃ v,w.cell? ⟨l.c,l.d+o,none⟩=some v∧VR ι a v:=by
 unfold ld1 at h
 split at h
 ·rename_i c es rw hb
  obtain ⟨_,arr,e,fz,h1,h2,h3,h4,h5⟩:=hs.obj b _ l hb hl
  obtain ⟨v,hv,hr⟩:=h4 o a h
  exact ⟨v,by rw [cell_of h1]; exact hv,hr⟩
 ·simp at h
theorem run_load_some {a:Addr} {v:Value} (h:w.cell? a=some v):(load a).run P w=.ok v w:=by rw [run_load,h]
theorem ldN_sound (hs:Sim A ι B w.heap) {b o n:Nat} {cs:List AV} {l:Loc} (h:ldN B b o n=some cs) (hl:ι b=some l) :
  ∃ vs:List Value,vs.length=n∧(∀ w':World,w'.heap=w.heap→(loadCells ⟨l.c,l.d+o,none⟩ n).run P w'=.ok vs.toArray w')∧VRL ι cs vs:=by
 unfold ldN at h
 split at h
 ·rename_i c es rw hb
  split at h
  ·rename_i hle
   cases h
   obtain ⟨_,arr,e,fz,h1,h2,h3,h4,h5⟩:=hs.obj b _ l hb hl
   have hrun:=fun (w':World) (hw:w'.heap=w.heap)=>run_loadCells (P:=P) w' ⟨l.c,l.d+o,none⟩ n (fun j=>arr.getD (l.d+o+j) undef) (fun j hj=>by
    rw [add_none,cell_of (by rw [hw]; exact h1)]
    have:l.d+o+j < arr.size:=by omega
    simp [Array.getElem?_eq_getElem this])
   refine ⟨_,by simp,hrun,.of_get (by simp; omega) fun i x hi=>?_⟩
   rw [List.getElem?_take] at hi
   split at hi
   ·rename_i hin
    rw [List.getElem?_drop] at hi
    obtain ⟨v,hv,hr⟩:=h4 _ _ hi
    refine ⟨v,?_,hr⟩
    rw [List.getElem?_map,List.getElem?_range hin]
    have:l.d+o+i=l.d+(o+i):=by omega
    simp [this,hv]
   ·simp at hi
  ·simp at h
 ·simp at h
theorem aload_sound (hs:Sim A ι B w.heap) {t:TypeId} {a v:AV} {x:Value} (h:aload P B t a=some v) (hx:VR ι a x) :
  Pure P w ι (Instr.loadAt t x) v:=by
 unfold aload at h
 split at h
 ·rename_i b o
  simp only [VR] at hx
  obtain ⟨l,hl,rfl⟩:=hx
  split at h
  ·simp at h
  ·rename_i d hd
   unfold Pure
   simp only [Instr.loadAt,Instr.sureAddr,Sem.run_bind,Sem.run_pure,Result.andThen_ok,loadVar,isAgg_run hd]
   split at h
   ·rename_i hag
    cases hz:size? P t with
    | none=>simp [hz] at h
    | some n =>
     simp only [hz,Option.bind_some,Option.map_eq_some_iff] at h
     obtain ⟨cs,h1,rfl⟩:=h
     obtain ⟨vs,_,h2,h3⟩:=ldN_sound (P:=P) hs h1 hl
     simp only [hag,if_true,Sem.run_bind,szOf hz,Result.andThen_ok,h2 w rfl,Sem.run_pure]
     exact ⟨_,rfl,by simp only [VR]; exact ⟨_,rfl,h3⟩⟩
   ·rename_i hag
    obtain ⟨y,h1,h2⟩:=ld1_sound hs h hl
    simp only [hag,Bool.false_eq_true,if_false,run_load_some h1]
    exact ⟨_,rfl,h2⟩
 ·simp at h
theorem apart_sound {t:TypeId} {cs:List AV} {off:Nat} {v:AV} {xs:Array Value} (h:apart P t cs off=some v) (hx:VRL ι cs xs.toList) :
  Pure P w ι (part t xs off) v:=by
 unfold apart at h
 split at h
 ·simp at h
 ·rename_i d hd
  unfold Pure
  simp only [part,Sem.run_bind,isAgg_run hd,Result.andThen_ok]
  split at h
  ·rename_i hag
   cases hz:size? P t with
   | none=>simp [hz] at h
   | some n =>
    simp only [hz,Option.map_some,Option.some.injEq] at h
    subst h
    simp only [hag,if_true,Sem.run_bind,szOf hz,Result.andThen_ok,Sem.run_pure]
    refine ⟨_,rfl,?_⟩
    simp only [VR]
    refine ⟨_,rfl,?_⟩
    have:(xs.extract off (off+n)).toList=(xs.toList.drop off).take n:=by simp
    rw [this]
    exact (hx.drop off).take n
  ·rename_i hag
   obtain ⟨y,h1,h2⟩:=hx.get h
   simp only [hag,Bool.false_eq_true,if_false]
   have:xs[off]?=some y:=by simpa using h1
   simp only [this]
   exact ⟨_,rfl,h2⟩
theorem afield_sound {t:TypeId} {a v:AV} {f:Nat} {x:Value} (h:afield P t a f=some v) (hx:VR ι a x) :
  Pure P w ι (Instr.field t x f) v:=by
 unfold afield at h
 split at h
 ·rename_i fs cs hu
  simp only [VR] at hx
  obtain ⟨xs,rfl,hx⟩:=hx
  split at h
  ·rename_i fd hf
   obtain ⟨y,h1,h2⟩:=apart_sound (P:=P) (w:=w) h hx
   refine ⟨y,?_,h2⟩
   simp only [Instr.field,Sem.run_bind,und hu,Result.andThen_ok,hf,asAgg,Sem.run_pure,h1]
  ·simp at h
 ·simp at h
theorem afieldAddr_sound {t:TypeId} {a v:AV} {f:Nat} {x:Value} (h:afieldAddr P t a f=some v) (hx:VR ι a x) :
  Pure P w ι (Instr.fieldAt t x f) v:=by
 unfold afieldAddr at h
 split at h
 ·rename_i fs b o hu
  simp only [VR] at hx
  obtain ⟨l,hl,rfl⟩:=hx
  split at h
  ·rename_i fd hf
   split at h
   ·rename_i n hn
    split at h
    ·simp at h
    ·rename_i h0
     cases h
     refine ⟨_,?_,by simp only [VR]; exact ⟨l,hl,rfl⟩⟩
     simp only [Instr.fieldAt,Sem.run_bind,und hu,Result.andThen_ok,hf,Instr.sureAddr,Sem.run_pure,fieldPlace,szOf hn,if_neg h0,add_none,Nat.add_assoc]
   ·simp at h
  ·simp at h
 ·simp at h
theorem aindexAddr_sound {t:TypeId} {a ix v:AV} {x i:Value} (h:aindexAddr P t a ix=some v) (hx:VR ι a x) (hi:VR ι ix i) :
  Pure P w ι (Instr.indexAt t x i) v:=by
 unfold aindexAddr at h
 split at h
 ·rename_i n e b o k i hu
  simp only [VR] at hx hi
  obtain ⟨l,hl,rfl⟩:=hx
  subst hi
  split at h
  ·rename_i sz hn
   split at h
   ·rename_i hin
    cases h
    refine ⟨_,?_,by simp only [VR]; exact ⟨l,hl,rfl⟩⟩
    simp only [Instr.indexAt,Sem.run_bind,und hu,Result.andThen_ok,asIntOf,Instr.sureAddr,Sem.run_pure,if_pos hin,szOf hn,add_none,Nat.add_assoc,Sem.run_ite]
   ·simp at h
  ·simp at h
 ·rename_i e b o n m k i hu
  simp only [VR] at hx hi
  obtain ⟨l,cap,off,hl,h1,h2,h3,h4,h5,rfl⟩:=hx
  subst hi
  split at h
  ·rename_i sz hn
   split at h
   ·rename_i hin
    cases h
    have hoff:off=l.d+o:=by
     rcases h3 with h3 | h3
     ·exact h3
     ·omega
    subst hoff
    refine ⟨_,?_,by simp only [VR]; exact ⟨l,hl,rfl⟩⟩
    simp only [Instr.indexAt,Sem.run_bind,und hu,Result.andThen_ok,asIntOf,Sem.run_pure,if_pos hin,szOf hn,add_none,Nat.add_assoc,Sem.run_ite]
   ·simp at h
  ·simp at h
 ·simp at h
theorem aindex_sound {t:TypeId} {a ix v:AV} {x i:Value} (h:aindex P t a ix=some v) (hx:VR ι a x) (hi:VR ι ix i) :
  Pure P w ι (Instr.index t x i) v:=by
 unfold aindex at h
 split at h
 ·rename_i n e cs k i hu
  simp only [VR] at hx hi
  obtain ⟨xs,rfl,hx⟩:=hx
  subst hi
  split at h
  ·rename_i sz hn
   split at h
   ·rename_i hin
    obtain ⟨y,h1,h2⟩:=apart_sound (P:=P) (w:=w) h hx
    refine ⟨y,?_,h2⟩
    simp only [Instr.index,Sem.run_bind,und hu,Result.andThen_ok,asIntOf,Sem.run_pure,if_pos hin,szOf hn,h1]
   ·simp at h
  ·simp at h
 ·rename_i s k i hu
  simp only [VR] at hx hi
  obtain ⟨bs,rfl,rfl⟩:=hx
  subst hi
  split at h
  ·rename_i h0
   simp only [Option.map_eq_some_iff] at h
   obtain ⟨c,h1,rfl⟩:=h
   refine ⟨.int .u8 c.toNat,?_,by simp only [VR]⟩
   have hb:bs[i.toNat]?=some c:=by
    have:bs.data[i.toNat]?=some c:=by simpa using h1
    have hlt:i.toNat < bs.data.size:=(Array.getElem?_eq_some_iff.1 this).1
    have hlt':i.toNat < bs.size:=hlt
    have he:=(Array.getElem?_eq_some_iff.1 this).2
    simp only [getElem?_def,hlt',dite_true]
    exact congrArg some he
   simp only [Instr.index,Sem.run_bind,und hu,Result.andThen_ok,asIntOf,Sem.run_pure,if_pos h0,hb]
  ·simp at h
 ·simp at h
theorem amkIface_sound {t:TypeId} {a v:AV} {x:Value} (h:amkIface P t a=some v) (hx:VR ι a x):Pure P w ι (Instr.makeInterface t x) v:=by
 unfold amkIface at h
 split at h
 ·simp at h
 ·rename_i d hd hu
  cases h
  refine ⟨.iface t x,?_,by simp only [VR]; exact ⟨x,rfl,hx⟩⟩
  simp only [Instr.makeInterface,Sem.run_bind,und hu,Result.andThen_ok]
  rfl
 ·simp at h
theorem aextract_sound {a v:AV} {i:Nat} {x:Value} (h:aextract a i=some v) (hx:VR ι a x):Pure P w ι (Instr.extract x i) v:=by
 unfold aextract at h
 split at h
 ·rename_i vs
  simp only [VR] at hx
  obtain ⟨xs,rfl,hx⟩:=hx
  obtain ⟨y,h1,h2⟩:=hx.get h
  have:xs[i]?=some y:=by simpa using h1
  exact ⟨y,by simp [Instr.extract,this],h2⟩
 ·simp at h
theorem aint_sound {op:BinOp} {k:IntKind} {a b:Int} {v:AV} (hop:op ≠ .shl∧op ≠ .shr) (h:aint op k a b=some v) (t:TypeId) :
    Pure P w ι (binOp op t (.int k a) (.int k b)) v:=by
  cases op <;> simp only [aint,Option.some.injEq,reduceCtorEq] at h <;>
    first
    | (subst h; exact ⟨_,by simp only [binOp,Op.intArith,Op.intCmp,Op.intBits,ne_eq,not_true,if_false]; rfl,by simp only [VR]⟩)
    | (split at h
       · simp at h
       · rename_i hb
         cases h
         exact ⟨_,by simp only [binOp,Op.intDiv,ne_eq,not_true,if_false,if_neg hb]; rfl,by simp only [VR]⟩)
    | (exact (hop.1 rfl).elim)
    | (exact (hop.2 rfl).elim)
theorem wrap_in (k:IntKind) (n:Int) (h:k.min≤n∧n≤k.max):k.wrap n=n:=by
 cases k <;> simp only [IntKind.min,IntKind.max,IntKind.wrap,IntKind.signed,IntKind.bits] at*<;> simp at*<;> (try split) <;> omega
theorem reql_sound {al ah bl bh a b:Int} {r:Bool} (h:reql al ah bl bh=some r) (ha:al≤a∧a≤ah) (hb:bl≤b∧b≤bh):(a == b)=r:=by
 unfold reql at h
 split at h
 ·cases h
  have:a ≠ b:=by omega
  simpa using this
 ·split at h
  ·cases h
   have:a=b:=by omega
   simpa using this
  ·cases h
theorem rlss_sound {al ah bl bh a b:Int} {r:Bool} (h:rlss al ah bl bh=some r) (ha:al≤a∧a≤ah) (hb:bl≤b∧b≤bh):decide (a < b)=r:=by
 unfold rlss at h
 split at h
 ·cases h; exact decide_eq_true (by omega)
 ·split at h
  ·cases h; exact decide_eq_false (by omega)
  ·cases h
theorem mul_line {a al ah b:Int} (h1:al≤a) (h2:a≤ah):min (al*b) (ah*b)≤a*b∧a*b≤max (al*b) (ah*b):=by
 rcases Int.le_total 0 b with hb | hb
 ·have p:=Int.mul_le_mul_of_nonneg_right h1 hb
  have q:=Int.mul_le_mul_of_nonneg_right h2 hb
  generalize al*b=x at *
  generalize ah*b=y at *
  generalize a*b=z at *
  omega
 ·have p:=Int.mul_le_mul_of_nonpos_right h1 hb
  have q:=Int.mul_le_mul_of_nonpos_right h2 hb
  generalize al*b=x at *
  generalize ah*b=y at *
  generalize a*b=z at *
  omega
theorem mul_between {a al ah b bl bh:Int} (ha:al≤a∧a≤ah) (hb:bl≤b∧b≤bh):mulLo al ah bl bh≤a*b∧a*b≤mulHi al ah bl bh:=by
 have p:=mul_line (b:=b) ha.1 ha.2
 have q:=mul_line (b:=al) hb.1 hb.2
 have r:=mul_line (b:=ah) hb.1 hb.2
 rw [Int.mul_comm bl al,Int.mul_comm bh al,Int.mul_comm b al] at q
 rw [Int.mul_comm bl ah,Int.mul_comm bh ah,Int.mul_comm b ah] at r
 unfold mulLo mulHi
 generalize al*b=x at *
 generalize ah*b=y at *
 generalize a*b=z at *
 generalize al*bl=x1 at *
 generalize al*bh=x2 at *
 generalize ah*bl=x3 at *
 generalize ah*bh=x4 at *
 omega
theorem arng_sound {op:BinOp} {k:IntKind} {a al ah b bl bh:Int} {v:AV} (h:arng op k a al ah b bl bh=some v) (ha:al≤a∧a≤ah) (hb:bl≤b∧b≤bh) (t:TypeId) :
  Pure P w ι (binOp op t (.int k a) (.int k b)) v:=by
 have hle:∀ a b:Int,decide (a≤b)=!decide (b < a):=fun a b=>by
  by_cases h:a≤b
  ·rw [decide_eq_true h,decide_eq_false (by omega)]; rfl
  ·rw [decide_eq_false h,decide_eq_true (by omega)]; rfl
 have hd:op ≠ .shl∧op ≠ .shr:=by constructor <;> (rintro rfl; cases h)
 have key:∀ v',aint op k a b=some v'→(∀ x,VR ι v' x→VR ι v x)→Pure P w ι (binOp op t (.int k a) (.int k b)) v:=fun v' hv hx=>by
  obtain ⟨r,p,q⟩:=aint_sound (P:=P) (w:=w) (ι:=ι) hd hv t
  exact ⟨r,p,hx _ q⟩
 cases op <;> simp only [arng,reduceCtorEq] at h
 ·split at h
  ·rename_i hk; cases h
   exact key _ rfl fun x hx=>by
    simp only [VR] at hx ⊢
    rw [wrap_in k _ ⟨by omega,by omega⟩] at hx
    exact ⟨hx,by omega,by omega⟩
  ·cases h
 ·split at h
  ·rename_i hk; cases h
   exact key _ rfl fun x hx=>by
    simp only [VR] at hx ⊢
    rw [wrap_in k _ ⟨by omega,by omega⟩] at hx
    exact ⟨hx,by omega,by omega⟩
  ·cases h
 ·split at h
  ·rename_i hk; cases h
   have hm:=mul_between ha hb
   exact key _ rfl fun x hx=>by
    simp only [VR] at hx ⊢
    rw [wrap_in k _ ⟨Int.le_trans hk.1 hm.1,Int.le_trans hm.2 hk.2⟩] at hx
    exact ⟨hx,hm.1,hm.2⟩
  ·cases h
 ·split at h
  ·rename_i hk; cases h
   obtain ⟨h1,h2,h3,h4,h5⟩:=hk
   have hb':b=bl:=by omega
   have ha0:0≤a:=by omega
   subst hb'
   have q1:al.tdiv b≤a.tdiv b:=by
    rw [Int.tdiv_eq_ediv_of_nonneg h1,Int.tdiv_eq_ediv_of_nonneg ha0]; exact Int.ediv_le_ediv h3 ha.1
   have q2:a.tdiv b≤ah.tdiv b:=by
    rw [Int.tdiv_eq_ediv_of_nonneg ha0,Int.tdiv_eq_ediv_of_nonneg (by omega:0≤ah)]; exact Int.ediv_le_ediv h3 ha.2
   have q3:0≤a.tdiv b:=by rw [Int.tdiv_eq_ediv_of_nonneg ha0]; exact Int.ediv_nonneg ha0 (by omega)
   have q4:a.tdiv b≤a:=by rw [Int.tdiv_eq_ediv_of_nonneg ha0]; exact Int.ediv_le_self b ha0
   exact key (.int k (k.wrap (a.tdiv b))) (by simp only [aint,if_neg (by omega:¬ b=0)]) fun x hx=>by
    simp only [VR] at hx ⊢
    rw [wrap_in k _ ⟨by omega,by omega⟩] at hx
    exact ⟨hx,q1,q2⟩
  ·cases h
 ·split at h
  ·rename_i hk; cases h
   obtain ⟨h1,h2,h3⟩:=hk
   have hb':b=bl:=by omega
   have ha0:0≤a:=by omega
   subst hb'
   have q1:0≤a.tmod b:=by rw [Int.tmod_eq_emod_of_nonneg ha0]; exact Int.emod_nonneg _ (by omega)
   have q2:a.tmod b < b:=by rw [Int.tmod_eq_emod_of_nonneg ha0]; exact Int.emod_lt_of_pos _ h3
   exact key (.int k (a.tmod b)) (by simp only [aint,if_neg (by omega:¬ b=0)]) fun x hx=>by
    simp only [VR] at hx ⊢
    exact ⟨hx,q1,by omega⟩
  ·cases h
 all_goals
  simp only [Option.map_eq_some_iff] at h
  obtain ⟨r,hr,rfl⟩:=h
  refine key _ rfl fun x hx=>?_
  simp only [VR] at hx ⊢
  rw [hx]
  first
  | rw [reql_sound hr ha hb]
  | (show Value.bool (!(a == b))=_; rw [reql_sound hr ha hb])
  | rw [rlss_sound hr ha hb]
  | (show Value.bool (decide (b < a))=_; rw [rlss_sound hr hb ha])
  | (rw [hle,rlss_sound hr hb ha])
  | (show Value.bool (decide (b≤a))=_; rw [hle,rlss_sound hr ha hb])
theorem ashift_sound {op:BinOp} {k k':IntKind} {a b:Int} {v:AV} (h:ashift op k a b=some v) (t:TypeId) :
  Pure P w ι (binOp op t (.int k a) (.int k' b)) v:=by
 unfold ashift at h
 split at h
 ·simp at h
 ·rename_i hb
  split at h
  ·cases h
   exact ⟨_,by simp only [binOp,Op.shift,if_neg hb]; rfl,by simp only [VR]⟩
  ·cases h
   exact ⟨_,by simp only [binOp,Op.shift,if_neg hb]; rfl,by simp only [VR]⟩
  ·simp at h
theorem toList_data (b:ByteArray):b.toList=b.data.toList:=ByteArray.toList_eq b
theorem astr_sound {op:BinOp} {a b:ByteArray} {v:AV} (h:astr op a.data.toList b.data.toList=some v) (t:TypeId) :
    Pure P w ι (binOp op t (.string a) (.string b)) v:=by
  cases op <;> simp only [astr,Option.some.injEq,reduceCtorEq] at h <;>
    first
    | (subst h; exact ⟨_,by simp only [binOp,Op.stringOp,toList_data]; rfl,by simp only [VR]⟩)
    | (split at h
       · rename_i hlt
         cases h
         have h1:¬ (((a.size+b.size:Nat):Int) > IntKind.i64.max):=by
           have e1:a.data.toList.length=a.size:=by simp
           have e2:b.data.toList.length=b.size:=by simp
           have:IntKind.i64.max=9223372036854775807:=by decide
           omega
         exact ⟨_,by simp only [binOp,Op.stringOp,if_neg h1]; rfl,by simp only [VR]; exact ⟨_,by simp,rfl⟩⟩
       · simp at h)
theorem snum_VR {a:AV} {k:IntKind} {n:Int} {x:Value} (h:snum a=some (k,n)) (hx:VR ι a x):x=.int k n:=by
 unfold snum at h
 split at h <;> first | (cases h; simp only [VR] at hx; first | exact hx | exact hx.1) | cases h
theorem sstr?_VR {a:AV} {s:List UInt8} {x:Value} (h:sstr? a=some s) (hx:VR ι a x):∃ b:ByteArray,b.data.toList=s∧x=.string b:=by
 unfold sstr? at h
 split at h
 ·cases h; simpa only [VR] using hx
 ·cases h; simpa only [VR] using hx
 ·cases h; simp only [VR] at hx; exact hx.1
 ·cases h
theorem aun_sound {op:UnOp} {a v:AV} {x:Value} (h:aun op a=some v) (hx:VR ι a x):Pure P w ι (Op.unary op x) v:=by
 unfold aun at h
 split at h
 ·simp only [VR] at hx; subst hx; cases h
  exact ⟨_,by simp only [Op.unary,Op.intArith]; rfl,by simp only [VR]⟩
 ·simp only [VR] at hx; obtain ⟨rfl,h1,h2⟩:=hx
  split at h
  ·rename_i hk; cases h
   refine ⟨_,by simp only [Op.unary,Op.intArith]; rfl,?_⟩
   simp only [VR]
   exact ⟨by rw [wrap_in _ _ ⟨by omega,by omega⟩],by omega,by omega⟩
  ·cases h
   exact ⟨_,by simp only [Op.unary,Op.intArith]; rfl,by simp only [VR]⟩
 ·simp only [VR] at hx; subst hx; cases h
  exact ⟨_,by simp only [Op.unary]; rfl,by simp only [VR]⟩
 ·simp only [VR] at hx; subst hx; cases h
  exact ⟨_,by simp only [Op.unary,Op.intArith]; rfl,by simp only [VR]⟩
 ·simp only [VR] at hx; subst hx; cases h
  exact ⟨_,by simp only [Op.unary]; rfl,by simp only [VR]⟩
 ·simp only [VR] at hx; subst hx
  simp only [aint,Option.some.injEq] at h; subst h
  exact ⟨_,by simp only [Op.unary,Op.intBits]; rfl,by simp only [VR]⟩
 ·simp at h
end
end Go.Ad
