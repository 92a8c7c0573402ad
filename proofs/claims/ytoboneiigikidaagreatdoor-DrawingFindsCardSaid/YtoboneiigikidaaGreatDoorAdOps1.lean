/- The abstract evaluator's operations stand for the model's: those that only compute and read. -/
import Derived.Test.YtoboneiigikidaaGreatDoorAdRel
import Derived.WalkKit
import Derived.ChangeKeysEq
namespace Go.Ad
def Pure(P:Program)(w:World)(Z:Emb)(s:Sem Value)(v:AV):Prop:=∃ y,s.run P w=.ok y w/\VR Z v y
section
variable {P:Program} {A:Amb} {Z:Emb} {B:Heap} {w:World}
theorem und{t:TypeId}{d:TypeDesc}(h:P.underlying t=some d)(w:World):(underlying t).run P w=.ok d w:=run_underlying h w
theorem A2e{t:TypeId}{n:Nat}(h:size? P t=some n)(w:World):(sizeOf t).run P w=.ok n w:=by
 unfold size? at h
 cases hi:P.info? t with
 | none=>simp[hi] at h
 | some i=>simp[hi] at h; rw[run_sizeOf w hi]; simp[Program.cellsOf,hi,h]
theorem B3p{t:TypeId}{d:TypeDesc}(h:P.underlying t=some d)(w:World):(isAgg t).run P w=.ok (D1q d) w:=by
 unfold isAgg
 simp only[Sem.run_bind,und h,rK]
 cases d<;>simp[D1q]
theorem cell_of{c off:Nat}{arr:Array Value}{e:TypeId}{fz:Nat×Nat}(h:w.heap[c]?=some (.cells arr e fz)):w.cell? ⟨c,off,none⟩=arr[off]?:=by
 simp[World.cell?,h]
theorem E2x{c off:Nat}{arr:Array Value}{e:TypeId}{fz:Nat×Nat}(h:w.heap[c]?=some (.cells arr e fz))(hf:off<fz.1 \/ fz.2<=off) :
  w.frozen? ⟨c,off,none⟩=false:=by
 simp only[World.frozen?,h]
 rcases hf with hf | hf<;>simp<;>omega
theorem M3(c off n:Nat):(Addr.mk c off none).add n=⟨c,off+n,none⟩:=by
 unfold Addr.add; split<;>simp_all
theorem E3f(hs:Sim A Z B w.heap){b o:Nat}{a:AV}{l:Loc}(h:ld1 B b o=some a)(hl:Z b=some l) :
  ∃ v,w.cell? ⟨l.c,l.d+o,none⟩=some v/\VR Z a v:=by
 unfold ld1 at h
 split at h
 ·rename_i c es rw hb
  obtain⟨_,arr,e,fz,h1,h2,h3,h4,h5⟩:=hs.obj b _ l hb hl
  obtain⟨v,hv,hr⟩:=h4 o a h
  exact⟨v,by rw[cell_of h1]; exact hv,hr⟩
 ·simp at h
theorem A9t{a:Addr}{v:Value}(h:w.cell? a=some v):(load a).run P w=.ok v w:=by rw[run_load,h]
theorem A8y(hs:Sim A Z B w.heap){b o n:Nat}{cs:List AV}{l:Loc}(h:ldN B b o n=some cs)(hl:Z b=some l) :
  ∃ vs:List Value,vs.length=n/\(∀ w':World,w'.heap=w.heap->(loadCells ⟨l.c,l.d+o,none⟩ n).run P w'=.ok vs.toArray w')/\VRL Z cs vs:=by
 unfold ldN at h
 split at h
 ·rename_i c es rw hb
  split at h
  ·rename_i hle
   cases h
   obtain⟨_,arr,e,fz,h1,h2,h3,h4,h5⟩:=hs.obj b _ l hb hl
   have hrun:=fun(w':World) (hw:w'.heap=w.heap)=>run_loadCells (P:=P) w' ⟨l.c,l.d+o,none⟩ n (fun j=>arr.getD (l.d+o+j) undef) (fun j hj=>by
    rw[M3,cell_of (by rw[hw]; exact h1)]
    have:l.d+o+j<arr.size:=by omega
    simp[aE this])
   refine⟨_,by simp,hrun,.of_get (by simp; omega) fun i x hi=>?_⟩
   rw[tK] at hi
   split at hi
   ·rename_i hin
    rw[dP] at hi
    obtain⟨v,hv,hr⟩:=h4 _ _ hi
    refine⟨v,?_,hr⟩
    rw[List.getElem?_map,List.getElem?_range hin]
    have:l.d+o+i=l.d+(o+i):=by omega
    simp[this,hv]
   ·simp at hi
  ·simp at h
 ·simp at h
theorem Y7(hs:Sim A Z B w.heap){t:TypeId}{a v:AV}{x:Value}(h:A2m P B t a=some v)(hx:VR Z a x) :
  Pure P w Z (Instr.loadAt t x) v:=by
 unfold A2m at h
 split at h
 ·rename_i b o
  simp only[VR] at hx
  obtain⟨l,hl,rfl⟩:=hx
  split at h
  ·simp at h
  ·rename_i d hd
   unfold Pure
   simp only[Instr.loadAt,Instr.sureAddr,Sem.run_bind,Sem.run_pure,rK,loadVar,B3p hd]
   split at h
   ·rename_i hag
    cases hz:size? P t with
    | none=>simp[hz] at h
    | some n =>
     simp only[hz,Option.bind_some,oM] at h
     obtain⟨cs,h1,rfl⟩:=h
     obtain⟨vs,_,h2,h3⟩:=A8y (P:=P) hs h1 hl
     simp only[hag,if_true,Sem.run_bind,A2e hz,rK,h2 w rfl,Sem.run_pure]
     exact⟨_,rfl,by simp only[VR]; exact⟨_,rfl,h3⟩⟩
   ·rename_i hag
    obtain⟨y,h1,h2⟩:=E3f hs h hl
    simp only[hag,Bool.false_eq_true,if_false,A9t h1]
    exact⟨_,rfl,h2⟩
 ·simp at h
theorem A0r{t:TypeId}{cs:List AV}{off:Nat}{v:AV}{xs:Array Value}(h:apart P t cs off=some v)(hx:VRL Z cs xs.toList) :
  Pure P w Z (part t xs off) v:=by
 unfold apart at h
 split at h
 ·simp at h
 ·rename_i d hd
  unfold Pure
  simp only[part,Sem.run_bind,B3p hd,rK]
  split at h
  ·rename_i hag
   cases hz:size? P t with
   | none=>simp[hz] at h
   | some n =>
    simp only[hz,oS,sI] at h
    subst h
    simp only[hag,if_true,Sem.run_bind,A2e hz,rK,Sem.run_pure]
    refine⟨_,rfl,?_⟩
    simp only[VR]
    refine⟨_,rfl,?_⟩
    have:(xs.extract off (off+n)).toList=(xs.toList.drop off).take n:=by simp
    rw[this]
    exact(hx.drop off).take n
  ·rename_i hag
   obtain⟨y,h1,h2⟩:=hx.get h
   simp only[hag,Bool.false_eq_true,if_false]
   have:xs[off]?=some y:=by simpa using h1
   simp only[this]
   exact⟨_,rfl,h2⟩
theorem C4l{t:TypeId}{a v:AV}{f:Nat}{x:Value}(h:D4n P t a f=some v)(hx:VR Z a x) :
  Pure P w Z (Instr.field t x f) v:=by
 unfold D4n at h
 split at h
 ·rename_i fs cs hu
  simp only[VR] at hx
  obtain⟨xs,rfl,hx⟩:=hx
  split at h
  ·rename_i fd hf
   obtain⟨y,h1,h2⟩:=A0r (P:=P) (w:=w) h hx
   refine⟨y,?_,h2⟩
   simp only[Instr.field,Sem.run_bind,und hu,rK,hf,asAgg,Sem.run_pure,h1]
  ·simp at h
 ·simp at h
theorem A5c{t:TypeId}{a v:AV}{f:Nat}{x:Value}(h:A3d P t a f=some v)(hx:VR Z a x) :
  Pure P w Z (Instr.fieldAt t x f) v:=by
 unfold A3d at h
 split at h
 ·rename_i fs b o hu
  simp only[VR] at hx
  obtain⟨l,hl,rfl⟩:=hx
  split at h
  ·rename_i fd hf
   split at h
   ·rename_i n hn
    split at h
    ·simp at h
    ·rename_i h0
     cases h
     refine⟨_,?_,by simp only[VR]; exact⟨l,hl,rfl⟩⟩
     simp only[Instr.fieldAt,Sem.run_bind,und hu,rK,hf,Instr.sureAddr,Sem.run_pure,fieldPlace,A2e hn,if_neg h0,M3,Nat.add_assoc]
   ·simp at h
  ·simp at h
 ·simp at h
theorem Z7{t:TypeId}{a ix v:AV}{x i:Value}(h:Y6 P t a ix=some v)(hx:VR Z a x)(hi:VR Z ix i) :
  Pure P w Z (Instr.indexAt t x i) v:=by
 unfold Y6 at h
 split at h
 ·rename_i n e b o k i hu
  simp only[VR] at hx hi
  obtain⟨l,hl,rfl⟩:=hx
  subst hi
  split at h
  ·rename_i sz hn
   split at h
   ·rename_i hin
    cases h
    refine⟨_,?_,by simp only[VR]; exact⟨l,hl,rfl⟩⟩
    simp only[Instr.indexAt,Sem.run_bind,und hu,rK,asIntOf,Instr.sureAddr,Sem.run_pure,if_pos hin,A2e hn,M3,Nat.add_assoc,Sem.run_ite]
   ·simp at h
  ·simp at h
 ·rename_i e b o n m k i hu
  simp only[VR] at hx hi
  obtain⟨l,cap,off,hl,h1,h2,h3,h4,h5,rfl⟩:=hx
  subst hi
  split at h
  ·rename_i sz hn
   split at h
   ·rename_i hin
    cases h
    have hoff:off=l.d+o:=by
     rcases h3 with h3 | h3
     ·exact h3
     ·omega
    subst hoff
    refine⟨_,?_,by simp only[VR]; exact⟨l,hl,rfl⟩⟩
    simp only[Instr.indexAt,Sem.run_bind,und hu,rK,asIntOf,Sem.run_pure,if_pos hin,A2e hn,M3,Nat.add_assoc,Sem.run_ite]
   ·simp at h
  ·simp at h
 ·simp at h
theorem B1n{t:TypeId}{a ix v:AV}{x i:Value}(h:B3e P t a ix=some v)(hx:VR Z a x)(hi:VR Z ix i) :
  Pure P w Z (Instr.index t x i) v:=by
 unfold B3e at h
 split at h
 ·rename_i n e cs k i hu
  simp only[VR] at hx hi
  obtain⟨xs,rfl,hx⟩:=hx
  subst hi
  split at h
  ·rename_i sz hn
   split at h
   ·rename_i hin
    obtain⟨y,h1,h2⟩:=A0r (P:=P) (w:=w) h hx
    refine⟨y,?_,h2⟩
    simp only[Instr.index,Sem.run_bind,und hu,rK,asIntOf,Sem.run_pure,if_pos hin,A2e hn,h1]
   ·simp at h
  ·simp at h
 ·rename_i s k i hu
  simp only[VR] at hx hi
  obtain⟨bs,rfl,rfl⟩:=hx
  subst hi
  split at h
  ·rename_i h0
   simp only[oM] at h
   obtain⟨c,h1,rfl⟩:=h
   refine⟨.int .u8 c.toNat,?_,by simp only[VR]⟩
   have hb:bs[i.toNat]?=some c:=by
    have:bs.data[i.toNat]?=some c:=by simpa using h1
    have hlt:i.toNat<bs.data.size:=(gA.1 this).1
    have hlt':i.toNat<bs.size:=hlt
    have he:=(gA.1 this).2
    simp only[getElem?_def,hlt',dite_true]
    exact congrArg some he
   simp only[Instr.index,Sem.run_bind,und hu,rK,asIntOf,Sem.run_pure,if_pos h0,hb]
  ·simp at h
 ·simp at h
theorem B7n{t:TypeId}{a v:AV}{x:Value}(h:B7m P t a=some v)(hx:VR Z a x):Pure P w Z (Instr.makeInterface t x) v:=by
 unfold B7m at h
 split at h
 ·simp at h
 ·rename_i d hd hu
  cases h
  refine⟨.iface t x,?_,by simp only[VR]; exact⟨x,rfl,hx⟩⟩
  simp only[Instr.makeInterface,Sem.run_bind,und hu,rK]
  rfl
 ·simp at h
theorem B7k{a v:AV}{i:Nat}{x:Value}(h:B7j a i=some v)(hx:VR Z a x):Pure P w Z (Instr.extract x i) v:=by
 unfold B7j at h
 split at h
 ·rename_i vs
  simp only[VR] at hx
  obtain⟨xs,rfl,hx⟩:=hx
  obtain⟨y,h1,h2⟩:=hx.get h
  have:xs[i]?=some y:=by simpa using h1
  exact⟨y,by simp[Instr.extract,this],h2⟩
 ·simp at h
theorem A3e{op:BinOp}{k:IntKind}{a b:Int}{v:AV}(hop:op≠.shl/\op≠.shr)(h:A9w op k a b=some v)(t:TypeId) :
    Pure P w Z (binOp op t (.int k a) (.int k b)) v:=by
  cases op<;>simp only[A9w,sI,reduceCtorEq] at h <;>
    first
    | (subst h; exact⟨_,by simp only[binOp,Op.intArith,Op.intCmp,Op.intBits,ne_eq,not_true,if_false]; rfl,by simp only[VR]⟩)
    | (split at h
       · simp at h
       · rename_i hb
         cases h
         exact⟨_,by simp only[binOp,Op.intDiv,ne_eq,not_true,if_false,if_neg hb]; rfl,by simp only[VR]⟩)
    | (exact(hop.1 rfl).elim)
    | (exact(hop.2 rfl).elim)
theorem A9d(k:IntKind)(n:Int)(h:k.min<=n/\n<=k.max):k.wrap n=n:=by
 cases k<;>simp only[IntKind.min,IntKind.max,IntKind.wrap,IntKind.signed,IntKind.bits] at*<;> simp at*<;> (try split)<;>omega
theorem A3v{al ah bl bh a b:Int}{r:Bool}(h:D7o al ah bl bh=some r)(ha:al<=a/\a<=ah)(hb:bl<=b/\b<=bh):(a==b)=r:=by
 unfold D7o at h
 split at h
 ·cases h
  have:a≠b:=by omega
  simpa using this
 ·split at h
  ·cases h
   have:a=b:=by omega
   simpa using this
  ·cases h
theorem A6r{al ah bl bh a b:Int}{r:Bool}(h:E3t al ah bl bh=some r)(ha:al<=a/\a<=ah)(hb:bl<=b/\b<=bh):decide (a<b)=r:=by
 unfold E3t at h
 split at h
 ·cases h; exact dT (by omega)
 ·split at h
  ·cases h; exact dF (by omega)
  ·cases h
theorem B9h{a al ah b:Int}(h1:al<=a)(h2:a<=ah):min (al*b) (ah*b)<=a*b/\a*b<=max (al*b) (ah*b):=by
 rcases Int.le_total 0 b with hb | hb
 ·have p:=Int.mul_le_mul_of_nonneg_right h1 hb
  have q:=Int.mul_le_mul_of_nonneg_right h2 hb
  generalize al*b=x at *
  generalize ah*b=y at *
  generalize a*b=z at *
  omega
 ·have p:=Int.mul_le_mul_of_nonpos_right h1 hb
  have q:=Int.mul_le_mul_of_nonpos_right h2 hb
  generalize al*b=x at *
  generalize ah*b=y at *
  generalize a*b=z at *
  omega
theorem D2k{a al ah b bl bh:Int}(ha:al<=a/\a<=ah)(hb:bl<=b/\b<=bh):E0j al ah bl bh<=a*b/\a*b<=E0i al ah bl bh:=by
 have p:=B9h (b:=b) ha.1 ha.2
 have q:=B9h (b:=al) hb.1 hb.2
 have r:=B9h (b:=ah) hb.1 hb.2
 rw[Int.mul_comm bl al,Int.mul_comm bh al,Int.mul_comm b al] at q
 rw[Int.mul_comm bl ah,Int.mul_comm bh ah,Int.mul_comm b ah] at r
 unfold E0j E0i
 generalize al*b=x at *
 generalize ah*b=y at *
 generalize a*b=z at *
 generalize al*bl=x1 at *
 generalize al*bh=x2 at *
 generalize ah*bl=x3 at *
 generalize ah*bh=x4 at *
 omega
theorem A9z{op:BinOp}{k:IntKind}{a al ah b bl bh:Int}{v:AV}(h:E4q op k a al ah b bl bh=some v)(ha:al<=a/\a<=ah)(hb:bl<=b/\b<=bh)(t:TypeId) :
  Pure P w Z (binOp op t (.int k a) (.int k b)) v:=by
 have hle:∀ a b:Int,decide (a<=b)=!decide (b<a):=fun a b=>by
  by_cases h:a<=b
  ·rw[dT h,dF (by omega)]; rfl
  ·rw[dF h,dT (by omega)]; rfl
 have hd:op≠.shl/\op≠.shr:=by constructor<;>(rintro rfl; cases h)
 have key:∀ v',A9w op k a b=some v'->(∀ x,VR Z v' x->VR Z v x)->Pure P w Z (binOp op t (.int k a) (.int k b)) v:=fun v' hv hx=>by
  obtain⟨r,p,q⟩:=A3e (P:=P) (w:=w) (Z:=Z) hd hv t
  exact⟨r,p,hx _ q⟩
 cases op<;>simp only[E4q,reduceCtorEq] at h
 ·split at h
  ·rename_i hk; cases h
   exact key _ rfl fun x hx=>by
    simp only[VR] at hx ⊢
    rw[A9d k _ ⟨by omega,by omega⟩] at hx
    exact⟨hx,by omega,by omega⟩
  ·cases h
 ·split at h
  ·rename_i hk; cases h
   exact key _ rfl fun x hx=>by
    simp only[VR] at hx ⊢
    rw[A9d k _ ⟨by omega,by omega⟩] at hx
    exact⟨hx,by omega,by omega⟩
  ·cases h
 ·split at h
  ·rename_i hk; cases h
   have hm:=D2k ha hb
   exact key _ rfl fun x hx=>by
    simp only[VR] at hx ⊢
    rw[A9d k _ ⟨Int.le_trans hk.1 hm.1,Int.le_trans hm.2 hk.2⟩] at hx
    exact⟨hx,hm.1,hm.2⟩
  ·cases h
 ·split at h
  ·rename_i hk; cases h
   obtain⟨h1,h2,h3,h4,h5⟩:=hk
   have hb':b=bl:=by omega
   have ha0:0<=a:=by omega
   subst hb'
   have q1:al.tdiv b<=a.tdiv b:=by
    rw[Int.tdiv_eq_ediv_of_nonneg h1,Int.tdiv_eq_ediv_of_nonneg ha0]; exact Int.ediv_le_ediv h3 ha.1
   have q2:a.tdiv b<=ah.tdiv b:=by
    rw[Int.tdiv_eq_ediv_of_nonneg ha0,Int.tdiv_eq_ediv_of_nonneg (by omega:0<=ah)]; exact Int.ediv_le_ediv h3 ha.2
   have q3:0<=a.tdiv b:=by rw[Int.tdiv_eq_ediv_of_nonneg ha0]; exact Int.ediv_nonneg ha0 (by omega)
   have q4:a.tdiv b<=a:=by rw[Int.tdiv_eq_ediv_of_nonneg ha0]; exact Int.ediv_le_self b ha0
   exact key (.int k (k.wrap (a.tdiv b))) (by simp only[A9w,if_neg (by omega:¬ b=0)]) fun x hx=>by
    simp only[VR] at hx ⊢
    rw[A9d k _ ⟨by omega,by omega⟩] at hx
    exact⟨hx,q1,q2⟩
  ·cases h
 ·split at h
  ·rename_i hk; cases h
   obtain⟨h1,h2,h3⟩:=hk
   have hb':b=bl:=by omega
   have ha0:0<=a:=by omega
   subst hb'
   have q1:0<=a.tmod b:=by rw[Int.tmod_eq_emod_of_nonneg ha0]; exact Int.emod_nonneg _ (by omega)
   have q2:a.tmod b<b:=by rw[Int.tmod_eq_emod_of_nonneg ha0]; exact Int.emod_lt_of_pos _ h3
   exact key (.int k (a.tmod b)) (by simp only[A9w,if_neg (by omega:¬ b=0)]) fun x hx=>by
    simp only[VR] at hx ⊢
    exact⟨hx,q1,by omega⟩
  ·cases h
 all_goals
  simp only[oM] at h
  obtain⟨r,hr,rfl⟩:=h
  refine key _ rfl fun x hx=>?_
  simp only[VR] at hx ⊢
  rw[hx]
  first
  | rw[A3v hr ha hb]
  | (show Value.bool (!(a==b))=_; rw[A3v hr ha hb])
  | rw[A6r hr ha hb]
  | (show Value.bool (decide (b<a))=_; rw[A6r hr hb ha])
  | (rw[hle,A6r hr hb ha])
  | (show Value.bool (decide (b<=a))=_; rw[hle,A6r hr ha hb])
theorem A5u{op:BinOp}{k k':IntKind}{a b:Int}{v:AV}(h:C4r op k a b=some v)(t:TypeId) :
  Pure P w Z (binOp op t (.int k a) (.int k' b)) v:=by
 unfold C4r at h
 split at h
 ·simp at h
 ·rename_i hb
  split at h
  ·cases h
   exact⟨_,by simp only[binOp,Op.shift,if_neg hb]; rfl,by simp only[VR]⟩
  ·cases h
   exact⟨_,by simp only[binOp,Op.shift,if_neg hb]; rfl,by simp only[VR]⟩
  ·simp at h
theorem toList_data(b:ByteArray):b.toList=b.data.toList:=ByteArray.toList_eq b
theorem B7s{op:BinOp}{a b:ByteArray}{v:AV}(h:E4r op a.data.toList b.data.toList=some v)(t:TypeId) :
    Pure P w Z (binOp op t (.string a) (.string b)) v:=by
  cases op<;>simp only[E4r,sI,reduceCtorEq] at h <;>
    first
    | (subst h; exact⟨_,by simp only[binOp,Op.stringOp,toList_data]; rfl,by simp only[VR]⟩)
    | (split at h
       · rename_i hlt
         cases h
         have h1:¬ (((a.size+b.size:Nat):Int)>IntKind.i64.max):=by
           have e1:a.data.toList.length=a.size:=by simp
           have e2:b.data.toList.length=b.size:=by simp
           have:IntKind.i64.max=9223372036854775807:=by decide
           omega
         exact⟨_,by simp only[binOp,Op.stringOp,if_neg h1]; rfl,by simp only[VR]; exact⟨_,by simp,rfl⟩⟩
       · simp at h)
theorem L6{a:AV}{k:IntKind}{n:Int}{x:Value}(h:Q9 a=some (k,n))(hx:VR Z a x):x=.int k n:=by
 unfold Q9 at h
 split at h<;>first | (cases h; simp only[VR] at hx; first | exact hx | exact hx.1) | cases h
theorem sstr?_VR{a:AV}{s:List UInt8}{x:Value}(h:sstr? a=some s)(hx:VR Z a x):∃ b:ByteArray,b.data.toList=s/\x=.string b:=by
 unfold sstr? at h
 split at h
 ·cases h; simpa only[VR] using hx
 ·cases h; simpa only[VR] using hx
 ·cases h; simp only[VR] at hx; exact hx.1
 ·cases h
theorem E2m{op:UnOp}{a v:AV}{x:Value}(h:aun op a=some v)(hx:VR Z a x):Pure P w Z (Op.unary op x) v:=by
 unfold aun at h
 split at h
 ·simp only[VR] at hx; subst hx; cases h
  exact⟨_,by simp only[Op.unary,Op.intArith]; rfl,by simp only[VR]⟩
 ·simp only[VR] at hx; obtain⟨rfl,h1,h2⟩:=hx
  split at h
  ·rename_i hk; cases h
   refine⟨_,by simp only[Op.unary,Op.intArith]; rfl,?_⟩
   simp only[VR]
   exact⟨by rw[A9d _ _ ⟨by omega,by omega⟩],by omega,by omega⟩
  ·cases h
   exact⟨_,by simp only[Op.unary,Op.intArith]; rfl,by simp only[VR]⟩
 ·simp only[VR] at hx; subst hx; cases h
  exact⟨_,by simp only[Op.unary]; rfl,by simp only[VR]⟩
 ·simp only[VR] at hx; subst hx; cases h
  exact⟨_,by simp only[Op.unary,Op.intArith]; rfl,by simp only[VR]⟩
 ·simp only[VR] at hx; subst hx; cases h
  exact⟨_,by simp only[Op.unary]; rfl,by simp only[VR]⟩
 ·simp only[VR] at hx; subst hx
  simp only[A9w,sI] at h; subst h
  exact⟨_,by simp only[Op.unary,Op.intBits]; rfl,by simp only[VR]⟩
 ·simp at h
end
end Go.Ad
namespace Go.Ad
theorem T9{α:Type}:∀ (vs c:List α) (o:Nat),(A1q c o vs).length=c.length
 | [],_,_=>rfl
 | v::vs,c,o=>by simp[A1q,T9 vs]
theorem A3y{α:Type}:∀ (vs c:List α) (o i:Nat),(A1q c o vs)[i]?=if o<=i/\i<o+vs.length/\i<c.length then vs[i-o]? else c[i]?
 | [],c,o,i=>by simp only[A1q]; rw[if_neg (by simp; omega)]
 | v::vs,c,o,i=>by
  simp only[A1q]
  rw[A3y vs _ (o+1) i]
  simp only[List.length_set,List.length_cons]
  by_cases h1:o+1<=i/\i<o+1+vs.length/\i<c.length
  ·rw[if_pos h1,if_pos (by omega)]
   have:i-o=(i-(o+1))+1:=by omega
   rw[this]; simp
  ·rw[if_neg h1,List.getElem?_set]
   by_cases h2:o=i
   ·subst h2
    by_cases h3:o<c.length
    ·simp[h3]
    ·simp[h3]
   ·rw[if_neg h2,if_neg (by omega)]
section
variable {P:Program} {A:Amb} {Z:Emb} {B:Heap} {w:World}
theorem one_cell{a:AV}{v:Value}(h:one a=true)(hv:VR Z a v):v.oneCell'=true:=by
 unfold one at h
 cases a with
 | ptr x=>cases x with
  | none=>simp only[VR] at hv; subst hv; rfl
  | some p=>simp only[VR] at hv; obtain⟨l,_,rfl⟩:=hv; rfl
 | slice x n m=>cases x with
  | none=>simp only[VR] at hv; obtain⟨_,_,rfl⟩:=hv; rfl
  | some p=>simp only[VR] at hv; obtain⟨l,_,_,_,_,_,_,_,_,rfl⟩:=hv; rfl
 | map x=>cases x with
  | none=>simp only[VR] at hv; subst hv; rfl
  | some p=>simp only[VR] at hv; obtain⟨l,_,rfl⟩:=hv; rfl
 | str s=>simp only[VR] at hv; obtain⟨_,_,rfl⟩:=hv; rfl
 | func f x y=>simp only[VR] at hv; obtain⟨_,_,_,rfl,_⟩:=hv; rfl
 | iface t x=>simp only[VR] at hv; obtain⟨_,rfl,_⟩:=hv; rfl
 | bad=>simp at h
 | agg=>simp at h
 | tuple=>simp at h
 | rng=>simp only[VR] at hv; obtain⟨rfl,_⟩:=hv; rfl
 | sstr s=>simp only[VR] at hv; obtain⟨_,_,rfl⟩:=hv; rfl
 | lstr s lo hi=>simp only[VR] at hv; obtain⟨⟨_,_,rfl⟩,_⟩:=hv; rfl
 | sslice b s n=>simp only[VR] at hv; rcases hv with⟨_,_,_,_,_,_,rfl⟩ | ⟨_,rfl⟩<;>rfl
 | aslc b s n=>simp only[VR] at hv; obtain⟨_,_,_,_,_,_,_,_,_,rfl⟩:=hv; rfl
 | sptr b i j=>simp only[VR] at hv; obtain⟨_,_,rfl⟩:=hv; rfl
 | dptr b n=>simp only[VR] at hv; rcases hv with⟨_,_,_,rfl⟩ | ⟨_,rfl⟩<;>rfl
 | flist n row es=>simp only[VR] at hv; rcases hv.shape with rfl | ⟨_,_,_,rfl⟩<;>rfl
 | fptr cs j=>simp only[VR] at hv; obtain⟨_,_,_,_,rfl,_⟩:=hv; rfl
 | _=>simp only[VR] at hv; subst hv; rfl
theorem B3b{a:AV}{v:Value}(h:a≠.bad)(hv:VR Z a v):VRL Z (A0v a) v.cells.toList:=by
 have key:∀ v:Value,(∀ cs,v≠.agg cs)->v.cells.toList=[v]:=fun v hv=>by
  cases v<;>first | rfl | exact(hv _ rfl).elim
 have one':∀ {a v},VR Z a v->(∀ cs,v≠.agg cs)->VRL Z [a] v.cells.toList:=fun{a v} h h'=>by
  rw[key v h']; simp only[VRL]; exact⟨v,[],rfl,h,rfl⟩
 cases a with
 | agg cs=>simp only[VR] at hv; obtain⟨xs,rfl,hx⟩:=hv; exact hx
 | bad=>exact(h rfl).elim
 | ptr x=>cases x with
  | none=>exact one' hv (by simp only[VR] at hv; subst hv; intro cs hc; cases hc)
  | some p=>exact one' hv (by simp only[VR] at hv; obtain⟨l,_,rfl⟩:=hv; intro cs hc; cases hc)
 | slice x n m=>cases x with
  | none=>exact one' hv (by simp only[VR] at hv; obtain⟨_,_,rfl⟩:=hv; intro cs hc; cases hc)
  | some p=>exact one' hv (by simp only[VR] at hv; obtain⟨l,_,_,_,_,_,_,_,_,rfl⟩:=hv; intro cs hc; cases hc)
 | map x=>cases x with
  | none=>exact one' hv (by simp only[VR] at hv; subst hv; intro cs hc; cases hc)
  | some p=>exact one' hv (by simp only[VR] at hv; obtain⟨l,_,rfl⟩:=hv; intro cs hc; cases hc)
 | str s=>exact one' hv (by simp only[VR] at hv; obtain⟨_,_,rfl⟩:=hv; intro cs hc; cases hc)
 | func f x y=>exact one' hv (by simp only[VR] at hv; obtain⟨_,_,_,rfl,_⟩:=hv; intro cs hc; cases hc)
 | iface t x=>exact one' hv (by simp only[VR] at hv; obtain⟨_,rfl,_⟩:=hv; intro cs hc; cases hc)
 | tuple x=>exact one' hv (by simp only[VR] at hv; obtain⟨_,rfl,_⟩:=hv; intro cs hc; cases hc)
 | rng=>exact one' hv (by simp only[VR] at hv; obtain⟨rfl,_⟩:=hv; intro cs hc; cases hc)
 | sstr s=>exact one' hv (by simp only[VR] at hv; obtain⟨_,_,rfl⟩:=hv; intro cs hc; cases hc)
 | lstr s lo hi=>exact one' hv (by simp only[VR] at hv; obtain⟨⟨_,_,rfl⟩,_⟩:=hv; intro cs hc; cases hc)
 | sslice b s n=>exact one' hv (by simp only[VR] at hv; rcases hv with⟨_,_,_,_,_,_,rfl⟩ | ⟨_,rfl⟩<;>(intro cs hc; cases hc))
 | aslc b s n=>exact one' hv (by simp only[VR] at hv; obtain⟨_,_,_,_,_,_,_,_,_,rfl⟩:=hv; intro cs hc; cases hc)
 | sptr b i j=>exact one' hv (by simp only[VR] at hv; obtain⟨_,_,rfl⟩:=hv; intro cs hc; cases hc)
 | dptr b n=>exact one' hv (by simp only[VR] at hv; rcases hv with⟨_,_,_,rfl⟩ | ⟨_,rfl⟩<;>(intro cs hc; cases hc))
 | flist n row es=>exact one' hv (by simp only[VR] at hv; rcases hv.shape with rfl | ⟨_,_,_,rfl⟩<;>(intro cs hc; cases hc))
 | fptr cs j=>exact one' hv (by simp only[VR] at hv; obtain⟨_,_,_,_,rfl,_⟩:=hv; intro cs hc; cases hc)
 | _=>exact one' hv (by simp only[VR] at hv; subst hv; intro cs hc; cases hc)
def Got(P:Program)(A:Amb)(Z:Emb)(B:Heap)(w:World)(s:Sem Next)(v:AV)(B':Heap)(D:List Nat):Prop :=
 ∃ Z' v' nx w',s.run P w=.ok nx w'/\(nx=.value v' \/ nx=.skip/\v'=undef)/\Step Z Z' B.length B'.length D w w'/\VR Z' v v'/\Sim A Z' B' w'.heap /\
  B.length<=B'.length/\Dom Z' B'.length
theorem Got.of_pure{s:Sem Value}{v:AV}(hs:Sim A Z B w.heap)(hd:Dom Z B.length)(h:Pure P w Z s v) :
  Got P A Z B w (do pure (.value (<- s))) v B []:=by
 obtain⟨y,h1,h2⟩:=h
 exact⟨Z,y,.value y,w,by simp[h1],.inl rfl,.refl _ _ _,h2,hs,lR _,hd⟩
theorem F6{s:Sem Value}{o:Option AV}{v:AV}{B':Heap}{D:List Nat}(hs:Sim A Z B w.heap)(hd:Dom Z B.length)(h:only B o=some (v,B',D))(hp:∀ v,o=some v->Pure P w Z s v):Got P A Z B w (do pure (.value (<- s))) v B' D:=by
 unfold only at h
 simp only[oM,pI] at h
 obtain⟨v',h1,rfl,rfl,rfl⟩:=h
 exact .of_pure hs hd (hp _ h1)
theorem A6l{s:Sem Value}{o:AObj}{obj:Obj}{d n es:Nat}{v:AV}{y:Value}{k:Nat}(hs:Sim A Z B w.heap)(hd:Dom Z B.length)(hrun:s.run P w=.ok y { w with heap:=w.heap.push obj,drawn:=k })(ho:OR (Z.put B.length ⟨w.heap.size,d,n,es⟩) (w.heap.push obj) ⟨w.heap.size,d,n,es⟩ o)(hv:VR (Z.put B.length ⟨w.heap.size,d,n,es⟩) v y):Got P A Z B w (do pure (.value (<- s))) v (B++[o]) []:=by
 have hn:Z B.length=none:=hd _ (lR _)
 refine⟨Z.put B.length ⟨w.heap.size,d,n,es⟩,y,.value y,_,by simp[hrun]; rfl,.inl rfl,?_,hv,hs.push hn ho,by simp,?_⟩
 ·have:=Step.push hn obj d n es (w:=w)
  simp only[lA,List.length_cons,List.length_nil,Nat.zero_add]
  exact⟨this.ext,this.dom,this.size,this.keep,this.loops,this.defs,rfl,rfl,rfl,this.fdom⟩
 ·simp only[lA,List.length_cons,List.length_nil,Nat.zero_add]; exact hd.put
theorem A5r{t:TypeId}{z:List AV}(h:zeroCells? P t=some z)(w:World):∃ v,(zeroValue t).run P w=.ok v w/\v.cells.toList.map A7g=z:=by
 unfold zeroCells? at h
 cases hi:P.info? t with
 | none=>simp[hi] at h
 | some i =>
  simp only[hi,Option.bind_some,oM] at h
  obtain⟨v,h1,h2⟩:=h
  exact⟨v,by simp only[zeroValue,Sem.run_bind,run_typeInfo w hi,rK,h1,Sem.run_pure],h2⟩
theorem C4a{cs:List AV}{xs:Array Value}{e:TypeId}{es b:Nat}{rw:Bool}(hx:VRL (Z.put b ⟨w.heap.size,0,xs.size,es⟩) cs xs.toList) :
  OR (Z.put b ⟨w.heap.size,0,xs.size,es⟩) (w.heap.push (.cells xs e (0,0))) ⟨w.heap.size,0,xs.size,es⟩ (.cells cs es rw e):=by
 refine⟨rfl,xs,(),(0,0),by simp,rfl,?_,fun i a hi=>?_,fun _=>⟨fun _=>⟨rfl,by have:=hx.length; simp at this; simp[this]⟩,fun off _ _=>.inr (by omega)⟩⟩
 ·have:=hx.length; simp at this; simp[this]
 ·obtain⟨v,h1,h2⟩:=hx.get hi
  exact⟨v,by simpa using h1,h2⟩
theorem C4e{t:TypeId}{z:List AV}(hs:Sim A Z B w.heap)(hd:Dom Z B.length)(h:zeroCells? P t=some z) :
  Got P A Z B w (do pure (.value (<- Instr.alloc t true (.tuple #[])))) (.ptr (some (B.length,0))) (B++[.cells z 0 true t]) []:=by
 obtain⟨v,h1,h2⟩:=A5r h w
 have hn:Z B.length=none:=hd _ (lR _)
 refine A6l (obj:=.cells v.cells t (0,0)) (d:=0) (n:=v.cells.size) (es:=0) (y:=.pointer (some ⟨w.heap.size,0,none⟩)) (k:=w.drawn) hs hd ?_ (C4a ?_) ?_
 ·simp[Instr.alloc,h1,newVar,newRow]
 ·rw[<- h2]; exact A4i _ _
 ·simp only[VR]; exact⟨_,Emb.put_self _ _ _,rfl⟩
theorem D4h{t:TypeId}{a:AV}{x:Value}(hs:Sim A Z B w.heap)(hd:Dom Z B.length)(hb:a≠.bad)(hx:VR Z a x) :
  Got P A Z B w (do pure (.value (<- Instr.box t x))) (.ptr (some (B.length,0))) (B++[.cells (A0v a) 0 true t]) []:=by
 have hn:Z B.length=none:=hd _ (lR _)
 refine A6l (obj:=.cells x.cells t (0,0)) (d:=0) (n:=x.cells.size) (es:=0) (y:=.pointer (some ⟨w.heap.size,0,none⟩)) (k:=w.drawn) hs hd ?_ (C4a ?_) ?_
 ·simp[Instr.box,newVar,newRow]
 ·exact(B3b hb hx).mono (Emb.le_put hn)
 ·simp only[VR]; exact⟨_,Emb.put_self _ _ _,rfl⟩
theorem C7s{c off:Nat}{arr:Array Value}{e:TypeId}{fz:Nat×Nat}(h:w.heap[c]?=some (.cells arr e fz))(v:Value) :
  (w.setCell ⟨c,off,none⟩ v).heap=w.heap.setIfInBounds c (.cells (arr.setIfInBounds off v) e fz):=by
 have hlt:c<w.heap.size:=(gA.1 h).1
 have he:=(gA.1 h).2
 simp only[World.setCell]
 apply Array.ext_getElem?
 intro i
 rw[Array.getElem?_modify,Array.getElem?_setIfInBounds]
 by_cases hi:c=i
 ·subst hi; simp[hlt,he]
 ·simp[hi]
theorem A9c{c off:Nat}{e:TypeId}{fz:Nat×Nat}:∀ (vs:List Value) (i:Nat) (arr:Array Value) (w:World),w.heap[c]?=some (.cells arr e fz) ->
  off+i+vs.length<=arr.size->(∀ v,v∈vs->v.oneCell'=true)->(∀ j,off+i<=j->j<off+i+vs.length->j<fz.1 \/ fz.2<=j) ->
  ∃ w' arr',(storeCells ⟨c,off,none⟩ vs i).run P w=.ok () w'/\w'.heap=w.heap.setIfInBounds c (.cells arr' e fz)/\arr'.toList=A1q arr.toList (off+i) vs /\
   w'.tape=w.tape/\w'.os=w.os/\w'.output=w.output
 | [],i,arr,w,h,_,_,_=>by
  refine⟨w,arr,rfl,?_,rfl,rfl,rfl,rfl⟩
  apply Array.ext_getElem?
  intro j
  rw[Array.getElem?_setIfInBounds]
  by_cases hj:c=j
  ·subst hj
   obtain⟨hlt,he⟩:=gA.1 h
   simp[hlt,he]
  ·simp[hj]
 | v::vs,i,arr,w,h,hsz,h1,hf=>by
  have hlt:off+i<arr.size:=by simp at hsz; omega
  have hcell:w.cell? ⟨c,off+i,none⟩=some (arr[off+i]'hlt):=by
   rw[cell_of h]; exact aE hlt
  have hfz:=E2x h (hf (off+i) (lR _) (by simp))
  have hheap:=C7s h v (off:=off+i)
  have h':(w.setCell ⟨c,off+i,none⟩ v).heap[c]?=some (.cells (arr.setIfInBounds (off+i) v) e fz):=by
   rw[hheap]; have:=(gA.1 h).1; simp[this]
  obtain⟨w',arr',r1,r2,r3,r4,r5,r6⟩:=A9c (off:=off) vs (i+1) _ _ h' (by simp at hsz ⊢; omega) (fun x hx=>h1 x (by simp[hx])) (fun j p q=>hf j (by omega) (by simp; omega))
  refine⟨w',arr',?_,?_,?_,r4,r5,r6⟩
  ·unfold storeCells
   rw[Sem.run_bind,M3,run_store P w _ v .plain (h1 v (by simp))]
   simp only[hcell,hfz,Bool.false_eq_true,if_false,rK]
   exact r1
  ·rw[r2,hheap]; simp
  ·rw[r3]; simp[A1q,Nat.add_assoc]
theorem B2v{B':Heap}{b o:Nat}{cs:List AV}{xs:List Value}{l:Loc}(hs:Sim A Z B w.heap)(h:st B b o cs=some B')(hl:Z b=some l)(hx:VRL Z cs xs) :
  ∃ w',(storeCells ⟨l.c,l.d+o,none⟩ xs).run P w=.ok () w'/\Step Z Z B.length B'.length [b] w w'/\Sim A Z B' w'.heap/\B'.length=B.length:=by
 unfold st at h
 split at h
 ·rename_i c es ty hb
  split at h
  ·rename_i hc
   cases h
   obtain⟨g0,arr,e,fz,g1,g2,g3,g4,g5⟩:=hs.obj b _ l hb hl
   have hlen:=hx.length
   obtain⟨w',arr',r1,r2,r3,r4,r5,r6⟩:=A9c (P:=P) (off:=l.d+o) xs 0 arr w g1 (by omega) (fun v hv=>by
    obtain⟨i,hi⟩:=List.mem_iff_getElem?.1 hv
    have hlt:i<cs.length:=by rw[<- hlen]; exact(gS.1 hi).1
    obtain⟨y,hy,hr⟩:=hx.get (gE hlt)
    rw[hi] at hy; cases hy
    exact one_cell (by have:=List.all_eq_true.1 hc.2 cs[i] (List.getElem_mem _); exact this) hr) (fun j p q=>(g5 rfl).2 j (by omega) (by omega))
   have hlt:l.c<w.heap.size:=hs.lt b l hl
   have hcs:w'.heap[l.c]?=some (.cells arr' ty fz):=by rw[r2]; simp[hlt]
   have hne:∀ x,x≠l.c->w'.heap[x]?=w.heap[x]?:=fun x hx=>by rw[r2]; simp[Array.getElem?_setIfInBounds_ne (Ne.symm hx)]
   have hsize:arr'.size=arr.size:=by
    have:=congrArg List.length r3; simpa[T9] using this
   refine⟨w',r1,Step.cells hl Z.le_refl (fun x lx p q=>(by rw[p] at q; cases q)) g1 r2 r4 r5 r6,
    hs.upd hb hl rfl (by rw[r2]; simp) hne ?_,by simp⟩
   refine⟨g0,arr',e,fz,hcs,by omega,by rw[T9]; exact g3,fun i a hi=>?_,fun _=>⟨fun he=>⟨((g5 rfl).1 he).1,by rw[T9]; exact((g5 rfl).1 he).2⟩,(g5 rfl).2⟩⟩
   rw[A3y] at hi
   have harr:∀ j:Nat,arr'[j]?=(A1q arr.toList (l.d+o+0) xs)[j]?:=fun j=>by rw[<- r3]; simp
   rw[harr,A3y]
   split at hi
   ·rename_i hin
    rw[if_pos (by simp; omega)]
    have:l.d+i-(l.d+o+0)=i-o:=by omega
    rw[this]; exact hx.get hi
   ·rename_i hin
    have hil:i<c.length:=(gS.1 hi).1
    rw[if_neg (by omega)]
    obtain⟨v,p,q⟩:=g4 i a hi
    exact⟨v,by simpa using p,q⟩
  ·simp at h
 ·simp at h
theorem B1s{B':Heap}{t:TypeId}{p a v:AV}{D:List Nat}{x y:Value}(hs:Sim A Z B w.heap)(hd:Dom Z B.length)(h:A7n P B t p a=some (v,B',D))(hb:a≠.bad)(hp:VR Z p x)(ha:VR Z a y):Got P A Z B w (do Instr.storeAt t x y; pure .skip) v B' D:=by
 unfold A7n at h
 split at h
 ·rename_i b o
  simp only[VR] at hp
  obtain⟨l,hl,rfl⟩:=hp
  split at h
  ·rename_i n hn
   split at h
   ·rename_i hlen
    simp only[oM,pI] at h
    obtain⟨B1,h1,rfl,rfl,rfl⟩:=h
    have hc:=B3b hb ha
    obtain⟨w',r1,r2,r3,r4⟩:=B2v (P:=P) hs h1 hl hc
    have hcl:y.cells.size=n:=by have:=hc.length; simp at this; omega
    refine⟨Z,undef,.skip,w',?_,.inr ⟨rfl,rfl⟩,r2,by simp[VR,H7,undef,VRL],r3,by omega,by rw[r4]; exact hd⟩
    simp only[Instr.storeAt,Instr.sureAddr,storeVar,Sem.run_bind,Sem.run_pure,rK,A2e hn,hcl,ne_eq,not_true,if_false,r1]
   ·simp at h
  ·simp at h
 ·simp at h
end
end Go.Ad
namespace Go.Ad
section
variable {P:Program} {A:Amb} {Z:Emb} {B:Heap} {w:World}
theorem B8n:∀ (vs:List Value) (off j:Nat) (cells:Array Value),
  ((vs.zipIdx j).foldl (fun cs (c,j)=>cs.setIfInBounds (off+j) c) cells).toList=A1q cells.toList (off+j) vs
 | [],_,_,_=>rfl
 | v::vs,off,j,cells=>by
  simp only[List.zipIdx_cons,List.foldl_cons,A1q]
  rw[B8n vs off (j+1)]
  simp[Nat.add_assoc]
theorem D1c(vs:Array Value)(off:Nat)(cells:Array Value) :
  (vs.zipIdx.foldl (fun cs (c,j)=>cs.setIfInBounds (off+j) c) cells).toList=A1q cells.toList off vs.toList:=by
 have:=B8n vs.toList off 0 cells
 rw[<- Array.foldl_toList,Array.toList_zipIdx]
 simpa using this
theorem D3i:∀ {vs cs:List AV} {xs ys:List Value} (o:Nat),VRL Z cs ys->VRL Z vs xs->VRL Z (A1q cs o vs) (A1q ys o xs)
 | [],_,xs,_,_,h,h'=>by simp only[VRL] at h'; subst h'; exact h
 | v::vs,_,xs,_,o,h,h'=>by
  simp only[VRL] at h'
  obtain⟨x,xs,rfl,h1,h2⟩:=h'
  simp only[A1q]
  exact D3i (o+1) (h.set o h1) h2
inductive PartsR (Z:Emb):List (Nat×AV)->List (Nat×Value)->Prop
 | nil:PartsR Z [] []
 | cons (i:Nat) {a:AV} {v:Value} {l:List (Nat×AV)} {m:List (Nat×Value)}:VR Z a v->PartsR Z l m->PartsR Z ((i,a)::l) ((i,v)::m)
theorem PartsR.map{f:Operand->AV}{g:Operand->Value}(h:∀ x,VR Z (f x) (g x)):∀ l:List (Nat×Operand),PartsR Z (l.map fun(i,x)=>(i,f x)) (l.map fun(i,x)=>(i,g x))
 | []=>.nil
 | (i,x)::l=>.cons i (h x) (PartsR.map h l)
theorem A7i{place:Nat->Option (Nat×Nat)}:∀ {ps:List (Nat×AV)} {qs:List (Nat×Value)} {cells out:List AV} {xs:Array Value},
  A9m place cells ps=some out->PartsR Z ps qs->VRL Z cells xs.toList->∃ ys,Instr.fill place xs qs=some ys/\VRL Z out ys.toList:=by
 intro ps
 induction ps with
 | nil =>
  intro qs cells out xs h hp hx
  cases hp
  simp only[A9m,sI] at h; subst h
  exact⟨xs,rfl,hx⟩
 | cons p ps ih =>
  intro qs cells out xs h hp hx
  cases hp with
  | cons _ hv hp =>
   rename_i i' a v m
   simp only[A9m] at h
   split at h
   ·simp at h
   ·rename_i off size hpl
    split at h
    ·simp at h
    ·rename_i hbad
     split at h
     ·simp at h
     ·rename_i hsz
      have hb:a≠.bad:=fun e=>hbad (by subst e; rfl)
      have hc:=B3b hb hv
      have hl:=hc.length
      have hxl:=hx.length
      obtain⟨ys,h1,h2⟩:=ih (xs:=v.cells.zipIdx.foldl (fun cs (c,j)=>cs.setIfInBounds (off+j) c) xs) h hp (by rw[D1c]; exact D3i off hx hc)
      refine⟨ys,?_,h2⟩
      simp only[Instr.fill,hpl]
      rw[if_neg,h1]
      simp only[Array.length_toList] at hl hxl
      simp; omega
theorem B2n:∀ {fs:List Field} {ps:List (Nat×Nat)},placesOf P fs=some ps->∀ w,(fs.mapM fun f=>do pure (f.offset,<- sizeOf f.type):Sem (List (Nat×Nat))).run P w=.ok ps w
 | [],ps,h,w=>by simp[placesOf] at h; subst h; rfl
 | f::fs,ps,h,w=>by
  simp only[placesOf] at h
  split at h
  ·rename_i n r hn hr
   cases h
   simp only[List.mapM_cons,Sem.run_bind,A2e hn,rK,Sem.run_pure,B2n hr w]
  ·simp at h
theorem C4h{t:TypeId}{ps:List (Nat×AV)}{qs:Array (Nat×Value)}{v:AV}(h:D4i P t ps=some v)(hp:PartsR Z ps qs.toList) :
  Pure P w Z (Instr.build t qs) v:=by
 unfold D4i at h
 split at h
 ·rename_i fs z hu hz
  obtain⟨zv,z1,z2⟩:=A5r hz w
  split at h
  ·rename_i pl hpl
   simp only[oM] at h
   obtain⟨out,h1,rfl⟩:=h
   obtain⟨ys,h2,h3⟩:=A7i (xs:=zv.cells) h1 hp (by rw[<- z2]; exact A4i _ _)
   refine⟨.agg ys,?_,by simp only[VR]; exact⟨_,rfl,h3⟩⟩
   have hm:(fs.mapM fun f=>do pure (f.offset,<- sizeOf f.type):Sem (Array (Nat×Nat))).run P w=.ok pl.toArray w:=by
    rw[Array.mapM_eq_mapM_toList]; simp only[Sem.run_map,B2n hpl w,rK]
   simp only[Instr.build,Sem.run_bind,z1,rK,und hu,hm]
   have hget:(fun i:Nat=>pl.toArray[i]?)=fun i:Nat=>pl[i]?:=by funext i; simp
   simp only[hget,h2,Sem.run_pure]
  ·simp at h
 ·rename_i n e z hu hz
  obtain⟨zv,z1,z2⟩:=A5r hz w
  split at h
  ·rename_i k hk
   simp only[oM] at h
   obtain⟨out,h1,rfl⟩:=h
   obtain⟨ys,h2,h3⟩:=A7i (xs:=zv.cells) h1 hp (by rw[<- z2]; exact A4i _ _)
   refine⟨.agg ys,?_,by simp only[VR]; exact⟨_,rfl,h3⟩⟩
   simp only[Instr.build,Sem.run_bind,z1,rK,und hu,A2e hk,h2,Sem.run_pure]
  ·simp at h
 ·simp at h
theorem B4d{z:List AV}{zv:Array Value}{n:Nat}(hz:VRL Z z zv.toList)(h0:0<z.length) :
  VRL Z (zeros z n) ((Array.range (n*zv.size)).map (zv[·%zv.size]!)).toList:=by
 have hl:=hz.length
 simp only[Array.length_toList] at hl
 unfold zeros
 split
 ·rename_i v
  simp only[VRL] at hz
  obtain⟨x,xs,e,h1,rfl⟩:=hz
  have hx:zv=#[x]:=by apply Array.ext'; simpa using e
  subst hx
  have:((Array.range (n*(#[x]:Array Value).size)).map ((#[x]:Array Value)[·%(#[x]:Array Value).size]!)).toList=List.replicate n x:=by
   apply List.ext_getElem (by simp)
   intro i h1 h2
   simp[Nat.mod_one]
  rw[this]
  exact VRL.replicate h1 n
 ·refine .of_get (by simp[hl]) fun i x hi=>?_
  rw[List.getElem?_map] at hi
  simp only[oM] at hi
  obtain⟨j,h1,rfl⟩:=hi
  have hjl:i<n*z.length/\j=i:=by
   rw[gS] at h1
   obtain⟨p,q⟩:=h1
   simp at p q; exact⟨p,q.symm⟩
  obtain⟨hjl,rfl⟩:=hjl
  have hmod:j%z.length<z.length:=Nat.mod_lt _ h0
  obtain⟨y,h2,h3⟩:=hz.get (i:=j%z.length) (gE hmod)
  refine⟨y,?_,?_⟩
  ·have hlt:j%zv.size<zv.size:=by rw[hl]; exact hmod
   have hjn:j<n*zv.size:=by rw[hl]; exact hjl
   simp only[Array.toList_map,List.getElem?_map,Array.toList_range,List.getElem?_range hjn,oS,sI]
   rw[getElem!_pos zv _ hlt]
   have:zv[j%z.length]?=some y:=by simpa using h2
   rw[gA] at this
   obtain⟨p,q⟩:=this
   simp only[hl]; exact q
  ·have e:z.getD (j%z.length) .bad=z[j%z.length]:=by simp[List.getD,gE hmod]
   rw[e]; exact h3
theorem B1k{t:TypeId}{n:Nat}{ps:List (Nat×AV)}{qs:Array (Nat×Value)}{v:AV}{B':Heap}{D:List Nat}(hs:Sim A Z B w.heap)(hd:Dom Z B.length)(h:A1v P B t n ps=some (v,B',D))(hp:PartsR Z ps qs.toList):Got P A Z B w (do pure (.value (<- Instr.buildSlice t n qs))) v B' D:=by
 unfold A1v at h
 split at h
 ·rename_i e hu
  split at h
  ·rename_i k z hk hz
   split at h
   ·rename_i hc
    obtain⟨c1,c2,c3⟩:=hc
    split at h
    ·rename_i cs hf
     cases h
     obtain⟨zv,z1,z2⟩:=A5r hz w
     have hzl:zv.cells.size=k:=by rw[<- c1,<- z2]; simp
     have hn:Z B.length=none:=hd _ (lR _)
     obtain⟨ys,h2,h3⟩:=A7i (Z:=Z) (xs:=(Array.range (n*k)).map (zv.cells[·%zv.cells.size]!)) hf hp (by
      have:=B4d (Z:=Z) (z:=z) (zv:=zv.cells) (n:=n) (by rw[<- z2]; exact A4i _ _) (by omega)
      rw[hzl] at this ⊢; exact this)
     refine A6l (obj:=.cells ys e (0,0)) (d:=0) (n:=ys.size) (es:=k) (y:=.slice (some ⟨w.heap.size,0,none⟩) n n) (k:=w.drawn) hs hd ?_
      (C4a (h3.mono (Emb.le_put hn))) ?_
     ·simp only[Instr.buildSlice,Sem.run_bind,und hu,rK,A2e hk,Sem.run_ite]
      rw[if_neg (by omega)]
      simp only[Sem.run_pure,rK]
      by_cases h0:n*k=0
      ·have hne:n=0:=by rcases Nat.mul_eq_zero.1 h0 with h | h<;>omega
       subst hne
       simp only[Nat.zero_mul,if_true]
       have e1:(Array.range (0*k)).map (zv.cells[·%zv.cells.size]!)=(#[]:Array Value):=by simp
       have e2:(Array.range 0).map ((#[]:Array Value)[·%(#[]:Array Value).size]!)=(#[]:Array Value):=by simp
       rw[e1] at h2
       rw[e2,h2]
       simp[newRow]
      ·simp only[if_neg h0,Sem.run_bind,z1,rK,Sem.run_pure,h2]
       simp[newRow]
     ·have hl:ys.size=n*k:=by
       have p:=h3.length
       have q:cs.length=(zeros z n).length:=by
        clear h2 h3 p
        have:∀ (ps:List (Nat×AV)) (c out:List AV),A9m (fun i=>some (i*k,k)) c ps=some out->out.length=c.length:=by
         intro ps
         induction ps with
         | nil=>intro c out h; simp[A9m] at h; simp[h]
         | cons p ps ih =>
          intro c out h
          obtain⟨i,a⟩:=p
          simp only[A9m] at h
          (repeat' split at h)<;>first | (simp at h; done) | (rw[ih _ _ h,T9])
        exact this _ _ _ hf
       have r:(zeros z n).length=n*z.length:=by
        unfold zeros; split
        ·simp
        ·simp
       simp at p; rw[p,q,r,c1]
      simp only[VR]
      exact⟨_,n,0,Emb.put_self _ _ _,lR _,lR _,.inl rfl,lR _,by simp[hl],rfl⟩
    ·simp at h
   ·simp at h
  ·simp at h
 ·simp at h
theorem wrap_small{n:Int}(h0:0<=n)(h:n<2^31):IntKind.i64.wrap n=n:=IntWalk.i64_in _ (by omega)
theorem B3f{t:TypeId}{a c v:AV}{x y:Value}{B':Heap}{D:List Nat}(hs:Sim A Z B w.heap)(hd:Dom Z B.length)(h:A3f P B t a c=some (v,B',D))(hx:VR Z a x)(hy:VR Z c y):Got P A Z B w (do pure (.value (<- Instr.makeSlice t x y))) v B' D:=by
 unfold A3f at h
 split at h
 ·rename_i e k l k' c hu
  simp only[VR] at hx hy
  subst hx hy
  split at h
  ·rename_i i z hi hz
   split at h
   ·rename_i hc
    obtain⟨c1,c2,c3,c4,c5,c6⟩:=hc
    cases h
    obtain⟨zv,z1,z2⟩:=A5r hz w
    have hzl:zv.cells.size=i.size:=by rw[<- c5,<- z2]; simp
    have hn:Z B.length=none:=hd _ (lR _)
    have hcn:(c.toNat:Int)=c:=Int.toNat_of_nonneg (by omega)
    have hzz:VRL (Z.put B.length ⟨w.heap.size,0,((Array.range (c.toNat*i.size)).map (zv.cells[·%zv.cells.size]!)).size,i.size⟩) (zeros z c.toNat)
      ((Array.range (c.toNat*i.size)).map (zv.cells[·%zv.cells.size]!)).toList:=by
     have:=B4d (Z:=Z.put B.length ⟨w.heap.size,0,((Array.range (c.toNat*i.size)).map (zv.cells[·%zv.cells.size]!)).size,i.size⟩) (z:=z) (zv:=zv.cells) (n:=c.toNat)
      (by rw[<- z2]; exact A4i _ _) (by omega)
     rw[hzl] at this ⊢; exact this
    refine A6l (obj:=.cells ((Array.range (c.toNat*i.size)).map (zv.cells[·%zv.cells.size]!)) e (0,0)) (d:=0)
     (n:=((Array.range (c.toNat*i.size)).map (zv.cells[·%zv.cells.size]!)).size) (es:=i.size)
     (y:=.slice (some ⟨w.heap.size,0,none⟩) l.toNat c.toNat) (k:=w.drawn) hs hd ?_ (C4a hzz) ?_
    ·have hb:((i.bytes:Nat):Int)*c<=65536*2147483648:=by
      have h1:((i.bytes:Nat):Int)<=65536:=by omega
      exact Int.mul_le_mul h1 (by omega) (by omega) (by omega)
     have hwl:IntKind.i64.wrap l=l:=wrap_small c1 (by omega)
     have hwc:IntKind.i64.wrap c=c:=wrap_small (by omega) c3
     have hsz:size? P e=some i.size:=by simp[size?,hi]
     simp only[Instr.makeSlice,asInt,Sem.run_bind,und hu,rK,asIntOf,Sem.run_pure,run_typeInfo w hi,hwl,hwc,Sem.run_ite]
     have hno:¬ ((decide (c<0)||decide ((i.bytes:Int)*c>2^48)||decide (l<0)||decide (l>c))=true):=by
      simp; omega
     rw[if_neg (by simpa using hno)]
     simp only[run_askRoom,rK,A2e hsz]
     by_cases h0:c.toNat*i.size=0
     ·have hc0:c.toNat=0:=by rcases Nat.mul_eq_zero.1 h0 with h | h<;>omega
      have r0:∀ f:Nat->Value,(Array.range 0).map f=#[]:=fun f=>by apply Array.ext'; simp
      simp[h0,newRow]
      rw[r0,r0]
     ·simp[h0,z1,newRow]
    ·simp only[VR]
     refine⟨_,c.toNat,0,Emb.put_self _ _ _,by omega,lR _,.inl rfl,lR _,by simp,rfl⟩
   ·simp at h
  ·simp at h
 ·simp at h
end
end Go.Ad
