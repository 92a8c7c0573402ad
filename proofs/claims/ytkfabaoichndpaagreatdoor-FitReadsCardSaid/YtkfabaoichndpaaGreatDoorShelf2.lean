/-
  DERIVED: THE SHELF's CONTRACTS AT THIS DUMP, IN PLAIN WORDS (tools/lay-plain.mjs out of 'TryzShelf.lean', which tools/lay-shelf.mjs wrote): THE SAME DECLARATIONS UNDER THE SAME NAMES: 'import', 'namespace', 'open', 'def', 'theorem' AND NOTHING ELSE: no command of the shelf's: FOR A HAND-IN. Each laying: the table of numbers ('.._ren') and one theorem, a field a fact of the dump's own or the kernel's comparison; each contract: ONE APPLICATION.
-/
import Derived.Shelf.Strconv.ErrVar
import Derived.Test.YtkfabaoichndpaaGreatDoorProg
import Derived.Test.YtkfabaoichndpaaGreatDoorD4
import Derived.Shelf.Strconv.AtoiAll
noncomputable section
namespace Go.Proofs
open Go.Shelf
def Tryz.laysC172_ren:Go.Shelf.Ren:=⟨fun | 172=>54 | 244=>91 | 245=>92 | 247=>146 | 279=>147 | 280=>148 | 281=>149 | 282=>150 | 287=>184 | 316=>185 | 171=>46 | 205=>186 | 321=>212 | 322=>213 | 243=>79 | 246=>127 | 283=>173 | 284=>174 | 285=>175 | 286=>176 | 129=>204 | 317=>203 | 318=>205 | 319=>206 | 320=>207 | 337=>218 | 338=>219 | n=>n,fun | 9=>9 | 3=>3 | 75=>96 | 76=>100 | 4=>4 | 5=>5 | 167=>190 | 37=>90 | 0=>0 | 85=>191 | 2=>2 | 168=>193 | 53=>199 | 175=>232 | 46=>148 | 210=>235 | 127=>137 | 145=>262 | 143=>260 | 21=>21 | 171=>224 | 173=>227 | 212=>252 | 51=>196 | 20=>20 | 213=>253 | 232=>270 | 233=>271 | 80=>102 | n=>n,fun | 15=>2 | 16=>3 | 17=>6 | 18=>7 | 19=>8 | n=>n⟩
theorem Tryz.laysC172:Go.Proofs.LaysC.n172 Tryz.prog Tryz.laysC172_ren:={
 mixed:=by kernel_rfl
 f129:=Tryz.func204.trans (congrArg some (by kernel_rfl))
 f171:=Tryz.func46.trans (congrArg some (by kernel_rfl))
 f172:=Tryz.func54.trans (congrArg some (by kernel_rfl))
 f205:=Tryz.func186.trans (congrArg some (by kernel_rfl))
 f243:=Tryz.func79.trans (congrArg some (by kernel_rfl))
 f244:=Tryz.func91.trans (congrArg some (by kernel_rfl))
 f245:=Tryz.func92.trans (congrArg some (by kernel_rfl))
 f246:=Tryz.func127.trans (congrArg some (by kernel_rfl))
 f247:=Tryz.func146.trans (congrArg some (by kernel_rfl))
 f279:=Tryz.func147.trans (congrArg some (by kernel_rfl))
 f280:=Tryz.func148.trans (congrArg some (by kernel_rfl))
 f281:=Tryz.func149.trans (congrArg some (by kernel_rfl))
 f282:=Tryz.func150.trans (congrArg some (by kernel_rfl))
 f283:=Tryz.func173.trans (congrArg some (by kernel_rfl))
 f284:=Tryz.func174.trans (congrArg some (by kernel_rfl))
 f285:=Tryz.func175.trans (congrArg some (by kernel_rfl))
 f286:=Tryz.func176.trans (congrArg some (by kernel_rfl))
 f287:=Tryz.func184.trans (congrArg some (by kernel_rfl))
 f316:=Tryz.func185.trans (congrArg some (by kernel_rfl))
 f317:=Tryz.func203.trans (congrArg some (by kernel_rfl))
 f318:=Tryz.func205.trans (congrArg some (by kernel_rfl))
 f319:=Tryz.func206.trans (congrArg some (by kernel_rfl))
 f320:=Tryz.func207.trans (congrArg some (by kernel_rfl))
 f321:=Tryz.func212.trans (congrArg some (by kernel_rfl))
 f322:=Tryz.func213.trans (congrArg some (by kernel_rfl))
 f337:=Tryz.func218.trans (congrArg some (by kernel_rfl))
 f338:=Tryz.func219.trans (congrArg some (by kernel_rfl))
 t0:=Tryz.underlying0
 a0:=Tryz.isAgg0
 z0:=Tryz.sizeOf0
 v0:=Tryz.zeroValue0
 t2:=Tryz.underlying2
 a2:=Tryz.isAgg2
 z2:=Tryz.sizeOf2
 v2:=Tryz.zeroValue2
 t3:=Tryz.underlying3
 a3:=Tryz.isAgg3
 z3:=Tryz.sizeOf3
 v3:=Tryz.zeroValue3
 t4:=Tryz.underlying4
 a4:=Tryz.isAgg4
 z4:=Tryz.sizeOf4
 v4:=Tryz.zeroValue4
 t5:=Tryz.underlying5
 a5:=Tryz.isAgg5
 z5:=Tryz.sizeOf5
 v5:=Tryz.zeroValue5
 t9:=Tryz.underlying9
 a9:=Tryz.isAgg9
 z9:=Tryz.sizeOf9
 v9:=Tryz.zeroValue9
 t20:=Tryz.underlying20
 a20:=Tryz.isAgg20
 z20:=Tryz.sizeOf20
 v20:=Tryz.zeroValue20
 t21:=Tryz.underlying21
 a21:=Tryz.isAgg21
 z21:=Tryz.sizeOf21
 v21:=Tryz.zeroValue21
 t37:=Tryz.underlying90
 a37:=Tryz.isAgg90
 z37:=Tryz.sizeOf90
 v37:=Tryz.zeroValue90
 t46:=Tryz.underlying148
 a46:=Tryz.isAgg148
 z46:=Tryz.sizeOf148
 v46:=Tryz.zeroValue148
 t51:=Tryz.underlying196
 a51:=Tryz.isAgg196
 z51:=Tryz.sizeOf196
 v51:=Tryz.zeroValue196
 t53:=Tryz.underlying199
 a53:=Tryz.isAgg199
 z53:=Tryz.sizeOf199
 v53:=Tryz.zeroValue199
 t75:=Tryz.underlying96
 a75:=Tryz.isAgg96
 z75:=Tryz.sizeOf96
 v75:=Tryz.zeroValue96
 t76:=Tryz.underlying100
 a76:=Tryz.isAgg100
 z76:=Tryz.sizeOf100
 v76:=Tryz.zeroValue100
 t85:=Tryz.underlying191
 a85:=Tryz.isAgg191
 z85:=Tryz.sizeOf191
 v85:=Tryz.zeroValue191
 t127:=Tryz.underlying137
 a127:=Tryz.isAgg137
 z127:=Tryz.sizeOf137
 v127:=Tryz.zeroValue137
 t143:=Tryz.underlying260
 a143:=Tryz.isAgg260
 z143:=Tryz.sizeOf260
 v143:=Tryz.zeroValue260
 t145:=Tryz.underlying262
 a145:=Tryz.isAgg262
 z145:=Tryz.sizeOf262
 v145:=Tryz.zeroValue262
 t167:=Tryz.underlying190
 a167:=Tryz.isAgg190
 z167:=Tryz.sizeOf190
 v167:=Tryz.zeroValue190
 t168:=Tryz.underlying193
 a168:=Tryz.isAgg193
 z168:=Tryz.sizeOf193
 v168:=Tryz.zeroValue193
 t171:=Tryz.underlying224
 a171:=Tryz.isAgg224
 z171:=Tryz.sizeOf224
 v171:=Tryz.zeroValue224
 t173:=Tryz.underlying227
 a173:=Tryz.isAgg227
 z173:=Tryz.sizeOf227
 v173:=Tryz.zeroValue227
 t175:=Tryz.underlying232
 a175:=Tryz.isAgg232
 z175:=Tryz.sizeOf232
 v175:=Tryz.zeroValue232
 t210:=Tryz.underlying235
 a210:=Tryz.isAgg235
 z210:=Tryz.sizeOf235
 v210:=Tryz.zeroValue235
 t212:=Tryz.underlying252
 a212:=Tryz.isAgg252
 z212:=Tryz.sizeOf252
 v212:=Tryz.zeroValue252
 t213:=Tryz.underlying253
 a213:=Tryz.isAgg253
 z213:=Tryz.sizeOf253
 t232:=Tryz.underlying270
 a232:=Tryz.isAgg270
 z232:=Tryz.sizeOf270
 v232:=Tryz.zeroValue270
 t233:=Tryz.underlying271
 a233:=Tryz.isAgg271
 z233:=Tryz.sizeOf271
 v233:=Tryz.zeroValue271
 g15:=by kernel_rfl
 g16:=by kernel_rfl
 g17:=by kernel_rfl
 g18:=by kernel_rfl
 g19:=by kernel_rfl
 t80:=Tryz.underlying102
 a80:=Tryz.isAgg102
 z80:=Tryz.sizeOf102
 v80:=Tryz.zeroValue102
 i0:=by kernel_rfl
 i2:=by kernel_rfl
 i3:=by kernel_rfl
 i4:=by kernel_rfl
 i5:=by kernel_rfl
 i9:=by kernel_rfl
 i20:=by kernel_rfl
 i21:=by kernel_rfl
 i37:=by kernel_rfl
 i46:=by kernel_rfl
 i51:=by kernel_rfl
 i53:=by kernel_rfl
 i75:=by kernel_rfl
 i76:=by kernel_rfl
 i80:=by kernel_rfl
 i85:=by kernel_rfl
 i127:=by kernel_rfl
 i143:=by kernel_rfl
 i145:=by kernel_rfl
 i167:=by kernel_rfl
 i168:=by kernel_rfl
 i171:=by kernel_rfl
 i173:=by kernel_rfl
 i175:=by kernel_rfl
 i210:=by kernel_rfl
 i212:=by kernel_rfl
 i232:=by kernel_rfl
 i233:=by kernel_rfl
 m15:=by kernel_rfl
 m16:=by kernel_rfl
 m17:=by kernel_rfl
 m18:=by kernel_rfl
 m19:=by kernel_rfl
 c0:=by kernel_rfl
 c2:=by kernel_rfl
 c3:=by kernel_rfl
 c4:=by kernel_rfl
 c5:=by kernel_rfl
 c9:=by kernel_rfl
 c20:=by kernel_rfl
 c21:=by kernel_rfl
 c37:=by kernel_rfl
 c46:=by kernel_rfl
 c51:=by kernel_rfl
 c53:=by kernel_rfl
 c75:=by kernel_rfl
 c76:=by kernel_rfl
 c80:=by kernel_rfl
 c85:=by kernel_rfl
 c127:=by kernel_rfl
 c143:=by kernel_rfl
 c145:=by kernel_rfl
 c167:=by kernel_rfl
 c168:=by kernel_rfl
 c171:=by kernel_rfl
 c173:=by kernel_rfl
 c175:=by kernel_rfl
 c210:=by kernel_rfl
 c212:=by kernel_rfl
 c213:=by kernel_rfl
 c232:=by kernel_rfl
 c233:=by kernel_rfl }
end Go.Proofs
namespace Go.Proofs.Tryz
open Go.Ad
open Go.Lib (decDigits itoa nDigits decFrom digitVal parseUint10 parseMag atoiAll)
def TabE (A:Amb):Prop:=∀ w:World,(∀ c,c < A.G->w.heap[c]?=A.base c)->∃ tp p,w.cell? ⟨2,0,none⟩=some (.iface tp p)
def aOk (s:List UInt8):Bool:=match Lib.atoiAll s with
 | .ok _=>true
 | _=>false
def D5z (s:List UInt8):Int:=match Lib.atoiAll s with
 | .ok v=>v
 | _=>0
theorem B0t {P:Program} {W:World} {name n:String} {d:DataW Unit} {rest:List (String × DataW Unit)} {g:Nat} {t:TypeId} {ms}
  (hg:P.globalNamed name=some g) (hty:(P.globals[g]?).map (·.type)=some t) (ht:P.underlying t=some (.interface ms)) (h:laidMet P ((name,.iface n d) :: rest) W):∃ tp p,W.cell? ⟨g,0,none⟩=some (.iface tp p):=by
 obtain ⟨ps,⟨g',t',cs,fuel,p,q,hg',ht',hvar,hd,_,_⟩,_⟩:=h
 obtain rfl:=Option.some.inj (hg.symm.trans hg')
 obtain rfl:=Option.some.inj (hty.symm.trans ht')
 have hc:=World.var?_cell hg hvar 0
 cases fuel with
 | zero=>simp [DataW.trod] at hd
 | succ fuel =>
  unfold DataW.trod at hd
  rw [ht] at hd
  obtain ⟨l⟩:=cs
  match l,hd with
  | [.iface tp p],_=>exact ⟨tp,p,hc⟩
  | .nilIface :: r,hd=>cases r <;> simp at hd
def TabR (A:Amb):Prop:=∀ w:World,(∀ c,c < A.G->w.heap[c]?=A.base c)->∃ tp p,w.cell? ⟨3,0,none⟩=some (.iface tp p)
def E7h:List AV->Tr AV
 | [x]=>match sstr? x with
  | some s=>.br (decide (s.length<=1000000)) (.br (aOk s) (.leaf (.tuple [.sint .i64 (D5z s),.nilIface])) (.leaf (.tuple [.bad,.iface 193 .bad]))) .fail
  | none=>.fail
 | _=>.fail
def pAt:Prims:=pC3.addt 54 E7h
theorem G4i {A:Amb} (hT:Tab A) (hE:TabE A) (hR:TabR A) (hG:gN prog<=A.G):PrimOK prog A pAt:=by
 refine PrimOK.libt (G2z hT hG) func54 (by kernel_rfl) ?_
 intro args v hg ι w xs hamb _ hx
 have key:∀ (b1:ByteArray) (n:Int),b1.data.toList.length<=1000000->Lib.atoiAll b1.data.toList=.ok n->xs=#[.string b1] ->
   Calls prog 54 xs w fun e w'=>∃ v',e=.returned v'/\v'=.tuple #[.int .i64 n,.nilIface]/\Quiet w w':=fun b1 n h1 h2 e1=>by
  subst e1
  have hl1:b1.data.toList.length=b1.size:=by simp
  refine (Any.strconv_Atoi_ok Tryz.laysC172 b1 (by omega) n h2 w).mono fun e w' ⟨h1',h2'⟩=>?_
  subst h1'
  refine ⟨_,rfl,rfl,?_⟩
  rcases h2' with rfl | ⟨t,rfl⟩
  ·exact Quiet.refl _
  ·have hb:=Go.Joins.below_bytesWorld w.heap.size w (Tryz.laysC172_ren.t 5) t (Nat.le_refl _)
   exact ⟨hb.size,hb.block,hb.tape,hb.os,hb.output⟩
 have keyE:∀ (b1:ByteArray),b1.data.toList.length<=1000000->aOk b1.data.toList=false->xs=#[.string b1] ->
   Calls prog 54 xs w fun e w'=>∃ v',e=.returned v'/\(∃ x y,v'=.tuple #[x,.iface 193 y])/\Quiet w w':=fun b1 h1 h2 e1=>by
  subst e1
  have hl1:b1.data.toList.length=b1.size:=by simp
  unfold aOk at h2
  cases hh:Lib.atoiAll b1.data.toList with
  | ok v=>rw [hh] at h2; cases h2
  | range =>
   obtain ⟨tp,p,hcell⟩:=hR w hamb
   refine (Any.strconv_Atoi_range Tryz.laysC172 b1 (by omega) hh (.iface tp p) w hcell (.inr ⟨tp,p,rfl⟩)).mono fun e w' ⟨N,h1',_,_,hb⟩=>?_
   subst h1'
   exact ⟨_,rfl,⟨_,_,rfl⟩,⟨hb.size,hb.block,hb.tape,hb.os,hb.output⟩⟩
  | _ =>
   obtain ⟨tp,p,hcell⟩:=hE w hamb
   refine (Any.strconv_Atoi_syntax Tryz.laysC172 b1 (by omega) hh (.iface tp p) w hcell (.inr ⟨tp,p,rfl⟩)).mono fun e w' ⟨N,h1',_,_,hb⟩=>?_
   subst h1'
   exact ⟨_,rfl,⟨_,_,rfl⟩,⟨hb.size,hb.block,hb.tape,hb.os,hb.output⟩⟩
 unfold E7h at hg
 split at hg
 ·rename_i x
  split at hg
  ·rename_i s hs
   obtain ⟨h1,h2⟩:=Tr.br_get0 hg
   rw [decide_eq_true_eq] at h1
   simp only [VRL] at hx
   obtain ⟨_,_,hxs,q1,rfl⟩:=hx
   obtain ⟨b1,rfl,rfl⟩:=K5 hs q1
   have hsy:(∃ n,Lib.atoiAll b1.data.toList=.ok n/\aOk b1.data.toList=true/\D5z b1.data.toList=n) \/ aOk b1.data.toList=false:=by
    unfold aOk D5z
    cases Lib.atoiAll b1.data.toList <;> simp
   rcases hsy with ⟨n,hn,e1,e2⟩ | e1
   ·rw [e1,e2] at h2
    simp only [Tr.get,sI] at h2
    subst h2
    refine (key b1 n h1 hn (E1i hxs)).mono fun e w' ⟨v',q1,q2,q3⟩=>⟨v',q1,?_,q3⟩
    subst q2
    simp only [VR,VRL]
    exact ⟨_,rfl,_,_,rfl,rfl,_,_,rfl,rfl,rfl⟩
   ·rw [e1] at h2
    simp only [Tr.get,sI] at h2
    subst h2
    refine (keyE b1 h1 e1 (E1i hxs)).mono fun e w' ⟨v',q1,q2,q3⟩=>⟨v',q1,?_,q3⟩
    obtain ⟨x,y,rfl⟩:=q2
    simp only [VR,VRL]
    exact ⟨_,rfl,_,_,rfl,trivial,_,_,rfl,⟨y,rfl,trivial⟩,rfl⟩
  ·cases hg
 ·cases hg
end Go.Proofs.Tryz
namespace Go.Proofs.Tryz
open Go.Ad
open Go.Lib (decDigits itoa nDigits decFrom digitVal)
def J9 (c:UInt8) (s:List UInt8):List UInt8 × List UInt8 × Bool:=match cutAt c s with
 | some (a,b)=>(a,b,true)
 | none=>(s,[],false)
abbrev C3v (s:List UInt8) (c:UInt8) (k:UInt8):Option AV :=
 brK ([c] == s) (brK (true && decide ((0:Int)<=1/\(1:Int)<=(s.length:Int))) (some (.tuple [.sstr (List.drop 0 []),.sstr (List.drop 1 (List.take s.length s)),.bool true])) none)
  (brK (decide (Lib.indexByte s k >= 0)) (brK (decide (0<=Lib.indexByte s k/\Lib.indexByte s k<=(s.length:Int)) && true) (brK (true && decide (0<=W (Lib.indexByte s k+1)/\W (Lib.indexByte s k+1)<=(s.length:Int)))
   (some (.tuple [.sstr (List.drop 0 (s.take (Lib.indexByte s k).toNat)),.sstr ((s.take s.length).drop (W (Lib.indexByte s k+1)).toNat),.bool true])) none) none) (some (.tuple [.sstr s,.str [],.bool false])))
theorem E6e (s:List UInt8):(C9 prog lib2 60).call 22 [.sstr s,.str [32]] (Bg 8) G9=C3v s 32 (byteOf 32):=by kernel_rfl
theorem E9u (s:List UInt8):(C9 prog lib2 60).call 22 [.sstr s,.str [46]] (Bg 8) G9=C3v s 46 (byteOf 46):=by kernel_rfl
theorem E8z (s:List UInt8):(C9 prog lib2 60).call 22 [.sstr s,.str [47]] (Bg 8) G9=C3v s 47 (byteOf 47):=by kernel_rfl
theorem E9s {s:List UInt8} {c:UInt8} (hs:F4 s=true):∃ v',C3v s c c=some v'/\below 0 v'=true/\∀ ι x,VR ι v' x->VR ι (.tuple [.sstr (J9 c s).1,.sstr (J9 c s).2.1,.sbool (J9 c s).2.2]) x:=by
 have hsz:s.length < 2 ^ 62:=of_decide_eq_true hs
 by_cases h0:[c]=s
 ·subst h0
  refine ⟨.tuple [.sstr [],.sstr [],.bool true],?_,rfl,fun ι x hx=>?_⟩
  ·unfold C3v
   rw [show ([c] == [c])=true by simp]; rfl
  ·have:J9 c [c]=([],[],true):=by unfold J9 cutAt; simp
   rw [this]
   exact A3i (fun _ h=>h) (fun _ h=>h) (A0i rfl) x hx
 ·have e0:([c] == s)=false:=by rw [beq_eq_false_iff_ne]; exact h0
  unfold C3v
  rw [e0]
  rcases V4 c s with ⟨e1,e2⟩ | ⟨i,e3,e1,e2⟩
  ·refine ⟨.tuple [.sstr s,.str [],.bool false],?_,rfl,fun ι x hx=>?_⟩
   ·rw [e1]; rfl
   ·have:J9 c s=(s,[],false):=by unfold J9; rw [e2]
    rw [this]
    exact A3i (fun _ h=>h) (fun v hv=>by simp only [VR] at hv ⊢; exact hv) (A0i rfl) x hx
  ·have e4:W ((i:Int)+1)=((i+1:Nat):Int):=by rw [R4 (by omega) (by omega)]; omega
   refine ⟨.tuple [.sstr (s.take i),.sstr (s.drop (i+1)),.bool true],?_,rfl,fun ι x hx=>?_⟩
   ·rw [e1,e4,dT (show ((i:Nat):Int) >= 0 by omega),dT (show 0<=(i:Int)/\(i:Int)<=(s.length:Int) by omega),dT (show 0<=((i+1:Nat):Int)/\((i+1:Nat):Int)<=(s.length:Int) by omega),
     Int.toNat_natCast,Int.toNat_natCast,List.take_length,List.drop_zero]; rfl
   ·have:J9 c s=(s.take i,s.drop (i+1),true):=by unfold J9; rw [e2]
    rw [this]
    exact A3i (fun _ h=>h) (fun _ h=>h) (A0i rfl) x hx
def G7l:List AV->Tr AV
 | [x,.str [c]]=>match sstr? x with
  | some s=>bif c == 32 || (c == 46 || c == 47) then .br (F4 s) (.leaf (.tuple [.sstr (J9 c s).1,.sstr (J9 c s).2.1,.sbool (J9 c s).2.2])) .fail else .fail
  | none=>.fail
 | _=>.fail
def pK1:Prims:=pAt.addt 22 G7l
theorem G0v {A:Amb} (hT:Tab A) (hE:TabE A) (hR:TabR A) (hG:gN prog<=A.G):PrimOK prog A pK1:=by
 refine PrimOK.addt3 D6 D7 (G4i hT hE hR hG) hG func22 (by kernel_rfl) fun args v hv=>?_
 unfold G7l at hv
 split at hv
 ·rename_i x c
  split at hv
  ·rename_i s hs
   cases hc:c == 32 || (c == 46 || c == 47) with
   | false=>rw [hc] at hv; cases hv
   | true =>
    rw [hc,cond_true] at hv
    obtain ⟨hz,hv⟩:=Tr.br1 hv
    cases hv
    obtain ⟨v',q1,q2,q3⟩:=E9s (c:=c) hz
    have hr:(C9 prog lib2 60).call 22 [.sstr s,.str [c]] (Bg (gN prog)) G9=some v':=by
     rw [gsz]
     simp only [Bool.or_eq_true,beq_iff_eq] at hc
     rcases hc with rfl | rfl | rfl
     ·exact (E6e s).trans q1
     ·exact (E9u s).trans q1
     ·exact (E8z s).trans q1
    obtain ⟨B',hca⟩:=Ca.of_finV hr
    refine ⟨lib2,_,v',B',I8 hT,fun ι xs hx=>?_,fun ι x=>q3 ι x,rfl,q2,hca⟩
    simp only [VRL] at hx ⊢
    obtain ⟨y,r,e1,h1,h2⟩:=hx
    exact ⟨y,r,e1,by simp only [VR]; exact K5 hs h1,h2⟩
  ·cases hv
 ·cases hv
def F0z:Code:=f25.body.getD .skip
def D6o:Code:=J3 (K6 0 F0z)
def spUn:SP:=⟨[.str,.int .u8]++dr 4++[.int .i64]++dr 19,dd8⟩
def spUr:SP:=⟨dr 4++[.str,.str]++dr 20,dd8⟩
def F0q:AEx->SP
 | .ret=>spUr
 | _=>spUn
theorem F6m (s:List UInt8) (b i:Int):F3 prog (C9 prog lib2 60) F8 D6o (spUn.rho [.s s,.i b,.i i]) (spUn.heap [.s s,.i b,.i i]) (H5 F0q 8 []) =
  brK (decide (i < (s.length:Int))) (brK (decide (0<=i/\i < (s.length:Int))) (brK (((s.getD i.toNat 0).toNat:Int) == b) (brK (decide (0<=i/\i<=(s.length:Int)) && true) (brK (true && decide (0<=W (i+1)/\W (i+1)<=(s.length:Int)))
   (some (.ret,[.s (List.drop 0 (s.take i.toNat)),.s ((s.take s.length).drop (W (i+1)).toNat)])) none) none) (some (.normal,[.s s,.i b,.i (W (i+1))]))) none) (some (.exit 0,[.s s,.i b,.i i])):=by kernel_rfl
theorem C0g {c:UInt8} {s:List UInt8}:∀ i,i<=s.length->(∀ j,j < i->s.getD j 0 ≠ c)->cutAt c s=(cutAt c (s.drop i)).map fun p=>(s.take i++p.1,p.2)
 | 0,_,_=>by simp
 | i+1,h,hn=>by
  rw [C0g i (by omega) (fun j hj=>hn j (by omega)),List.drop_eq_getElem_cons (show i < s.length by omega)]
  have h1:(s[i]'(by omega) == c)=false:=by
   rw [beq_eq_false_iff_ne]
   have:=hn i (by omega)
   rwa [List.getD_eq_getElem?_getD,List.getElem?_eq_getElem (show i < s.length by omega)] at this
  rw [show cutAt c (s[i] :: s.drop (i+1))=(cutAt c (s.drop (i+1))).map fun p=>(s[i] :: p.1,p.2) by
   show (if (s[i] == c)=true then _ else _)=_
   rw [h1,if_neg (by simp)]]
  rw [Option.map_map]
  congr 1
  funext p
  have e:s.take (i+1)=s.take i++[s[i]'(by omega)]:=by
   rw [List.take_add_one,List.getElem?_eq_getElem (show i < s.length by omega)]; rfl
  show (s.take i++s[i] :: p.1,p.2)=(s.take (i+1)++p.1,p.2)
  rw [e,List.append_assoc]; rfl
def D0u (s:List UInt8) (c:UInt8):AEx × St:=match cutAt c s with
 | some (a,b)=>(.ret,⟨spUr.rho [.s a,.s b],spUr.heap [.s a,.s b],[]⟩)
 | none=>(.exit 0,⟨spUn.rho [.s s,.i c.toNat,.i s.length],spUn.heap [.s s,.i c.toNat,.i s.length],[]⟩)
theorem G1z {A:Amb} (hT:Tab A) (s:List UInt8) (c:UInt8) (hs:F4 s=true) {Bb:Heap} (hB:Bb.length=8) :
  SEB prog A Bb (.loop D6o) ⟨spUn.rho [.s s,.i c.toNat,.i 0],spUn.heap [.s s,.i c.toNat,.i 0],[]⟩ (D0u s c).1 (D0u s c).2:=by
 have hp:=I8 hT
 have hsz:s.length < 2 ^ 62:=of_decide_eq_true hs
 have hok:∀ e,okD 8 [] 0 (F0q e).h=true:=fun e=>by cases e <;> rfl
 refine SEB.while (fun i:Nat=>i<=s.length/\∀ j,j < i->s.getD j 0 ≠ c) (fun i=>s.length - i) (fun i=>⟨spUn.rho [.s s,.i c.toNat,.i i],spUn.heap [.s s,.i c.toNat,.i i],[]⟩) (fun _=>D0u s c) (fun i hx=>?_) 0 ⟨Nat.zero_le _,fun j hj=>by omega⟩
 obtain ⟨h1,h2⟩:=hx
 have hk:=F6m s c.toNat i
 have hcut:=C0g i h1 h2
 rw [Int.toNat_natCast] at hk
 by_cases hi:i < s.length
 ·have e2:W ((i:Int)+1)=((i+1:Nat):Int):=by rw [R4 (by omega) (by omega)]; omega
  rw [e2,dT (show (i:Int) < (s.length:Int) by omega),dT (show 0<=(i:Int)/\(i:Int) < (s.length:Int) by omega),dT (show 0<=(i:Int)/\(i:Int)<=(s.length:Int) by omega),
   dT (show 0<=((i+1:Nat):Int)/\((i+1:Nat):Int)<=(s.length:Int) by omega),Int.toNat_natCast,List.take_length,List.drop_zero] at hk
  have hb:(((s.getD i 0).toNat:Int) == (c.toNat:Int))=(s.getD i 0 == c):=by
   by_cases e:s.getD i 0=c
   ·rw [e]; simp
   ·rw [show (s.getD i 0 == c)=false by rw [beq_eq_false_iff_ne]; exact e,beq_eq_false_iff_ne]
    intro h
    exact e (UInt8.toNat_inj.1 (by omega))
  rw [hb] at hk
  have hd:s.drop i=s.getD i 0 :: s.drop (i+1):=by
   rw [List.drop_eq_getElem_cons hi,List.getD_eq_getElem?_getD,List.getElem?_eq_getElem hi]; rfl
  cases he:s.getD i 0 == c with
  | true =>
   right
   rw [he] at hk
   have hc2:cutAt c s=some (s.take i,s.drop (i+1)):=by
    rw [hcut,hd]
    show ((if (s.getD i 0 == c)=true then some ([],s.drop (i+1)) else _)).map _=_
    rw [if_pos he]; simp
   have ho:D0u s c=(.ret,⟨spUr.rho [.s (s.take i),.s (s.drop (i+1))],spUr.heap [.s (s.take i),.s (s.drop (i+1))],[]⟩):=by unfold D0u; rw [hc2]
   rw [ho]
   exact ⟨by simp,SEB.of_KP (e:=.ret) (sp:=F0q) D6 D7 hp (.none _) hB hk (hok .ret)⟩
  | false =>
   left
   rw [he] at hk
   refine ⟨i+1,⟨by omega,fun j hj=>?_⟩,by omega,rfl,SEB.of_KP (e:=.normal) (sp:=F0q) D6 D7 hp (.none _) hB hk (hok .normal)⟩
   by_cases e:j=i
   ·subst e; simpa using he
   ·exact h2 j (by omega)
 ·right
  have e:i=s.length:=by omega
  subst e
  rw [dF (show ¬ (s.length:Int) < (s.length:Int) by omega)] at hk
  have hc2:cutAt c s=none:=by rw [hcut,List.drop_length]; rfl
  have ho:D0u s c=(.exit 0,⟨spUn.rho [.s s,.i c.toNat,.i s.length],spUn.heap [.s s,.i c.toNat,.i s.length],[]⟩):=by unfold D0u; rw [hc2]
  rw [ho]
  exact ⟨by simp,SEB.of_KP (e:=.exit 0) (sp:=F0q) D6 D7 hp (.none _) hB hk (hok _)⟩
end Go.Proofs.Tryz
namespace Go.Proofs.Tryz
open Go.Ad
open Go.Lib (decDigits itoa nDigits decFrom digitVal)
def G4j:Blk:=hookP spUn 8 [] fun
 | [.s s,.i b,.i i]=>.br (A9 (i=0/\b=((byteOf b).toNat:Int)/\F4 s=true)) (.br (J9 (byteOf b) s).2.2 (.leaf (.ret,spUr,[.s (J9 (byteOf b) s).1,.s (J9 (byteOf b) s).2.1])) (.leaf (.normal,spUn,[.s s,.i b,.i s.length]))) .fail
 | _=>.fail
def G0m:Prims:=lib2.addb 25 0 G4j
theorem F4j {A:Amb} (hT:Tab A):PrimOK prog A G0m:=by
 refine (I8 hT).addb func25 (show f25.body=some F0z by kernel_rfl) (body:=.loop D6o) (by kernel_rfl) (O8 (by rfl) fun ls e sq l h=>?_)
 split at h
 ·rename_i s b i
  obtain ⟨hc,hv⟩:=Tr.br1 h
  clear h
  obtain ⟨rfl,h2,h3⟩:=D9 hc
  generalize byteOf b=c at *
  subst h2
  have key:=fun (Bb:Heap) (hB:Bb.length=8)=>G1z hT s c h3 hB
  unfold D0u at key
  unfold J9 at hv
  cases hq:cutAt c s with
  | none =>
   rw [hq] at hv
   simp only [Tr.get,sI,pI] at hv
   obtain ⟨rfl,rfl,rfl⟩:=hv
   refine ⟨⟨.inr rfl,.inr rfl,.inr rfl,.inr rfl,.inr rfl,.inr rfl,.inr rfl,.inr rfl,trivial⟩,fun Bb hB=>SEB.block_exit (id:=0) ?_⟩
   have:=key Bb hB
   rw [hq] at this
   exact this
  | some p =>
   obtain ⟨x,y⟩:=p
   rw [hq] at hv
   simp only [Tr.get,sI,pI] at hv
   obtain ⟨rfl,rfl,rfl⟩:=hv
   refine ⟨⟨.inr rfl,.inr rfl,.inr rfl,.inr rfl,.inr rfl,.inr rfl,.inr rfl,.inr rfl,trivial⟩,fun Bb hB=>SEB.block_other (id:=0) ?_ (by simp)⟩
   have:=key Bb hB
   rw [hq] at this
   exact this
 ·cases h
def spUa:SP:=⟨[.str,.int .u8],dd8⟩
def G9u:SP:=⟨[.str,.str],dd8⟩
def T25:List Lf->Tr (SP × List Lf)
 | [.s s,.i b]=>.br (A9 (b=((byteOf b).toNat:Int)/\F4 s=true)) (.leaf (G9u,[.s (J9 (byteOf b) s).1,.s (J9 (byteOf b) s).2.1])) .fail
 | _=>.fail
theorem G7a (s:List UInt8) (b:Int):(C9 prog G0m 60).call 25 (spUa.rho [.s s,.i b]) (spUa.heap [.s s,.i b]) (V7 G9u 8 []) =
  brK (A9 ((0:Int)=0/\b=((byteOf b).toNat:Int)/\F4 s=true)) (brK (J9 (byteOf b) s).2.2 (some [.s (J9 (byteOf b) s).1,.s (J9 (byteOf b) s).2.1]) (some [.s s,.s []])) none:=by kernel_rfl
def C3e (s:List UInt8):Int :=
 if (J9 46 s).1.length > 6 then -1 else if (J9 46 s).2.1.length > 3 then -1 else if aOk ((J9 46 s).1++(J9 46 s).2.1++List.replicate (3 - (J9 46 s).2.1.length) 48)=true then D5z ((J9 46 s).1++(J9 46 s).2.1++List.replicate (3 - (J9 46 s).2.1.length) 48) else -1
theorem G9o (s:List UInt8):(C9 prog pK1 60).call 23 [.sstr s] (Bg 8) G9 =
  brK (F4 s) (brK (decide (((J9 46 s).1.length:Int) > 6)) (some (.int .i64 (-1))) (brK (decide (((J9 46 s).2.1.length:Int) > 3)) (some (.int .i64 (-1))) (brK (decide ((J9 46 s).1.length+(J9 46 s).2.1.length < 4611686018427387904))
   (brK (A9 (([48]:List UInt8)=[48]/\IntKind.i64=IntKind.i64) && decide (0<=W (3 - ((J9 46 s).2.1.length:Int))/\W (3 - ((J9 46 s).2.1.length:Int))<=24))
    (brK (decide (((J9 46 s).1++(J9 46 s).2.1).length+(List.replicate (W (3 - ((J9 46 s).2.1.length:Int))).toNat (48:UInt8)).length < 4611686018427387904))
     (brK (decide (((J9 46 s).1++(J9 46 s).2.1++List.replicate (W (3 - ((J9 46 s).2.1.length:Int))).toNat (48:UInt8)).length<=1000000))
      (brK (aOk ((J9 46 s).1++(J9 46 s).2.1++List.replicate (W (3 - ((J9 46 s).2.1.length:Int))).toNat (48:UInt8)))
       (some (.sint .i64 (D5z ((J9 46 s).1++(J9 46 s).2.1++List.replicate (W (3 - ((J9 46 s).2.1.length:Int))).toNat (48:UInt8))))) (some (.int .i64 (-1)))) none) none) none) none))) none:=by kernel_rfl
def g23:List AV->Tr AV
 | [x]=>match sstr? x with
  | some s=>.br (F4 s) (.leaf (.sint .i64 (C3e s))) .fail
  | none=>.fail
 | _=>.fail
def pK2:Prims:=(pK1.addh 25 (H9 8 (funQ spUa 8 [] T25))).addt 23 g23
theorem E7c {A:Amb} (hT:Tab A) (hE:TabE A) (hR:TabR A) (hG:gN prog<=A.G):PrimOK prog A pK2:=by
 have h1:=G0v hT hE hR hG
 refine PrimOK.addt3 D6 D7 (h1.addl gsz func25 (by kernel_rfl) (J7 D6 D7 rfl fun ls sq l h=>?_)) hG func23 (by kernel_rfl) fun args v hv=>?_
 ·unfold T25 at h
  split at h
  ·rename_i s b
   obtain ⟨hc,hv⟩:=Tr.br1 h
   cases hv
   obtain ⟨h2,h3⟩:=D9 hc
   refine ⟨fr8 rfl rfl,rfl,G0m,60,_,F4j hT,(G7a s b).trans ?_,fun _ _=>.refl⟩
   rw [A8 ⟨rfl,h2,h3⟩]
   unfold J9
   cases cutAt (byteOf b) s with
   | none=>rfl
   | some p=>rfl
  ·cases h
 ·unfold g23 at hv
  split at hv
  ·rename_i x
   split at hv
   ·rename_i s hs
    obtain ⟨hz,hv⟩:=Tr.br1 hv
    cases hv
    have hsz:s.length < 2 ^ 62:=of_decide_eq_true hz
    have hq:∃ v',(C9 prog pK1 60).call 23 [.sstr s] (Bg (gN prog)) G9=some v'/\below 0 v'=true/\∀ ι x,VR ι v' x->VR ι (.sint .i64 (C3e s)) x:=by
     rw [gsz,G9o,hz]
     unfold C3e
     generalize (J9 46 s).1=w
     generalize (J9 46 s).2.1=p
     by_cases c1:w.length > 6
     ·rw [dT (show (w.length:Int) > 6 by omega),if_pos c1]; exact ⟨_,rfl,rfl,fun ι=>Q4 rfl⟩
     rw [dF (show ¬ (w.length:Int) > 6 by omega),if_neg c1]
     by_cases c2:p.length > 3
     ·rw [dT (show (p.length:Int) > 3 by omega),if_pos c2]; exact ⟨_,rfl,rfl,fun ι=>Q4 rfl⟩
     have e:W (3 - (p.length:Int))=((3 - p.length:Nat):Int):=by rw [R4 (by omega) (by omega)]; omega
     have l1:(w++p).length+(List.replicate (3 - p.length) (48:UInt8)).length < 4611686018427387904:=by rw [List.length_append,List.length_replicate]; omega
     have l2:(w++p++List.replicate (3 - p.length) (48:UInt8)).length<=1000000:=by rw [List.length_append,List.length_append,List.length_replicate]; omega
     rw [dF (show ¬ (p.length:Int) > 3 by omega),if_neg c2,e,Int.toNat_natCast,dT (show w.length+p.length < 4611686018427387904 by omega),A8 ⟨rfl,rfl⟩,dT (show 0<=((3 - p.length:Nat):Int)/\((3 - p.length:Nat):Int)<=24 by omega),
      dT l1,dT l2]
     cases aOk (w++p++List.replicate (3 - p.length) (48:UInt8)) with
     | true=>exact ⟨_,rfl,rfl,fun ι x h=>h⟩
     | false=>exact ⟨_,rfl,rfl,fun ι=>Q4 rfl⟩
    obtain ⟨v',q1,q2,q3⟩:=hq
    obtain ⟨B',hca⟩:=Ca.of_finV q1
    refine ⟨pK1,_,v',B',h1,fun ι xs hx=>?_,fun ι x=>q3 ι x,rfl,q2,hca⟩
    simp only [VRL] at hx ⊢
    obtain ⟨y,r,e1,h1,h2⟩:=hx
    exact ⟨y,r,e1,by simp only [VR]; exact K5 hs h1,h2⟩
   ·cases hv
  ·cases hv
end Go.Proofs.Tryz
namespace Go.Proofs.Tryz
open Go.Ad
open Go.Lib (decDigits itoa nDigits decFrom digitVal)
def Rq (x:List UInt8) (N D:Int):Prop:=x=Z9 N D/\1<=D/\Int.gcd N D=1
theorem Rq.n {x:List UInt8} {N D:Int} (h:Rq x N D):D5o x=N:=by
 unfold D5o
 rw [h.1,(A1u N D).1,C8]
theorem Rq.d {x:List UInt8} {N D:Int} (h:Rq x N D):D4s x=D:=by
 unfold D4s
 rw [h.1,(A1u N D).2,C8]
theorem E0r {A B:Int} (hB:B ≠ 0):∃ N D g:Int,R3 A B=Z9 N D/\1<=D/\Int.gcd N D=1/\g ≠ 0/\A=g*N/\B=g*D:=by
 have hg0:Int.gcd A B ≠ 0:=fun e=>hB (Int.gcd_eq_zero_iff.1 e).2
 have hs:sgG A B ≠ 0/\(sgG A B).natAbs=Int.gcd A B/\(sgG A B < 0 ↔ B < 0):=by
  unfold sgG
  split <;> omega
 obtain ⟨s0,s1,s2⟩:=hs
 have dA:sgG A B ∣ A:=by
  rw [<- Int.natAbs_dvd,s1]; exact Int.gcd_dvd_left ..
 have dB:sgG A B ∣ B:=by
  rw [<- Int.natAbs_dvd,s1]; exact Int.gcd_dvd_right ..
 unfold R3
 generalize sgG A B=g at *
 obtain ⟨x,rfl⟩:=dA
 obtain ⟨y,rfl⟩:=dB
 refine ⟨x,y,g,?_,?_,?_,s0,rfl,rfl⟩
 ·rw [Int.mul_fdiv_cancel_left _ s0,Int.mul_fdiv_cancel_left _ s0]
 ·by_cases h:0 < y
  ·omega
  ·exfalso
   have h:y<=0:=by omega
   by_cases h2:g < 0
   ·have:=s2.1 h2
    have h3:0<=g*y:=Int.mul_nonneg_of_nonpos_of_nonpos (by omega) h
    omega
   ·have h3:g*y<=0:=Int.mul_nonpos_of_nonneg_of_nonpos (by omega) h
    have h4:g*y ≠ 0:=hB
    have h5:g < 0:=s2.2 (by omega)
    omega
 ·rw [Int.gcd_mul_left] at s1
  have hgp:0 < g.natAbs:=by omega
  have:g.natAbs*Int.gcd x y=g.natAbs*1:=by rw [Nat.mul_one]; exact s1.symm
  exact Nat.eq_of_mul_eq_mul_left hgp this
theorem A8z {D N E:Int} (h:D ∣ N*E):D.natAbs ∣ N.natAbs*E.natAbs:=by
 have:=Int.natAbs_dvd_natAbs.2 h
 rwa [Int.natAbs_mul] at this
theorem D4h {N D M E:Int} (hD:1<=D) (hE:1<=E) (hg:Int.gcd N D=1) (hh:Int.gcd M E=1) (h:N*E=M*D):N=M/\D=E:=by
 have h1:D.natAbs ∣ E.natAbs:=by
  refine Nat.Coprime.dvd_of_dvd_mul_left (m:=N.natAbs) ?_ (A8z ⟨M,by rw [h,Int.mul_comm]⟩)
  show Nat.gcd D.natAbs N.natAbs=1
  rw [Nat.gcd_comm]; exact hg
 have h2:E.natAbs ∣ D.natAbs:=by
  refine Nat.Coprime.dvd_of_dvd_mul_left (m:=M.natAbs) ?_ (A8z ⟨N,by rw [<- h,Int.mul_comm]⟩)
  show Nat.gcd E.natAbs M.natAbs=1
  rw [Nat.gcd_comm]; exact hh
 have h3:=Nat.dvd_antisymm h1 h2
 have h4:D=E:=by omega
 subst h4
 exact ⟨Int.eq_of_mul_eq_mul_right (by omega) h,rfl⟩
theorem Rq.low {N D A B:Int} (hB:B ≠ 0) (hD:1<=D) (hg:Int.gcd N D=1) (h:A*D=N*B):Rq (R3 A B) N D:=by
 obtain ⟨M,E,g,h1,h2,h3,h4,h5,h6⟩:=E0r (A:=A) hB
 have h7:M*D=N*E:=by
  rw [h5,h6] at h
  have:g*(M*D)=g*(N*E):=by
   rw [<- Int.mul_assoc,h,<- Int.mul_assoc,Int.mul_comm N g,Int.mul_assoc]
  exact Int.eq_of_mul_eq_mul_left h4 this
 obtain ⟨e1,e2⟩:=D4h h2 hD h3 hg h7
 rw [e1,e2] at h1
 exact ⟨h1,hD,hg⟩
theorem E8c {N D:Int} (h1:N.natAbs < 10 ^ 100) (h2:D.natAbs < 10 ^ 100):(Z9 N D).length<=300:=by
 have l1:=Y2 (Z:=N) (k:=100) h1 (by omega)
 have l2:=Y2 (Z:=D) (k:=100) h2 (by omega)
 unfold Z9
 cases itoa D == [49] with
 | true=>show (itoa N).length<=_; omega
 | false =>
  show (itoa N++[47]++itoa D).length<=_
  rw [List.length_append,List.length_append]
  show (itoa N).length+1+(itoa D).length<=_
  omega
theorem E8g {N D:Int} (h1:D5 (itoa N)=0) (h2:D5 (itoa D)=0) (hD:1<=D) (hg:Int.gcd N D=1):A0e (Z9 N D)=0:=by
 have hc:=A1u N D
 have hw:(F9 (Z9 N D)).2.2=true->1 < D:=fun hw=>by
  by_cases h:D=1
  ·subst h
   have:itoa 1 == [49]:=by rw [itoa_1]; rfl
   unfold Z9 F9 at hw
   rw [this,cond_true,X8 (B3m N)] at hw
   cases hw
  ·omega
 unfold A0e
 rw [hc.1,hc.2,if_neg (by rw [h1,h2]; simp),if_neg (by rw [h1,h2]; simp),C8,C8,if_neg fun h=>h.2 ⟨hw h.1,hg⟩]
theorem Rq.sm {x:List UInt8} {N D:Int} (h:Rq x N D) (h1:N.natAbs < 10 ^ 100) (h2:D.natAbs < 10 ^ 100):smQ x:=by
 have e1:=B7o h1 (by omega) (by omega)
 have e2:=B7o h2 (by omega) (by omega)
 obtain ⟨c1,c2⟩:=A1u N D
 have hl:=E8c h1 h2
 obtain ⟨rfl,hD,hg⟩:=h
 refine ⟨E8g e1 e2 hD hg,dT (by omega),?_,?_⟩
 ·rw [c1,C8]; exact h1
 ·rw [c2,C8]; exact h2
theorem Rq.itoa (n:Int):Rq (itoa n) n 1:=by
 refine ⟨?_,by omega,Int.gcd_one⟩
 unfold Z9
 rw [show (Lib.itoa 1 == [49])=true by rw [itoa_1]; rfl]; rfl
theorem F0x {n:Int} (h:n.natAbs < 10 ^ 100):smQ (itoa n):=(Rq.itoa n).sm h (by decide)
end Go.Proofs.Tryz
namespace Go.Proofs.Tryz
open Go.Ad
open Go.Lib (decDigits itoa nDigits decFrom digitVal)
def whD:List UInt8->Nat->Nat->Option Nat
 | [],_,n=>some n
 | c :: r,i,n=>if c.toNat < 48 \/ c.toNat > 57 \/ i > 8 then none else whD r (i+1) (10*n+(c.toNat - 48))
def F0f:Code:=f26.body.getD .skip
def C7l:Code:=J3 (K6 0 F0f)
def spH:SP:=⟨dr 3++[.str,.drop,.int .i64,.int .i64]++dr 38,dd8⟩
def spHr:SP:=⟨dr 2++[.int .i64]++dr 42,dd8⟩
def E2c:AEx->SP
 | .ret=>spHr
 | _=>spH
theorem F6j (s:List UInt8) (n i:Int):F3 prog (C9 prog lib2 60) F8 C7l (spH.rho [.s s,.i n,.i i]) (spH.heap [.s s,.i n,.i i]) (H5 E2c 8 []) =
  brK (decide (i < (s.length:Int))) (brK (decide (0<=i/\i < (s.length:Int))) (brK (decide (((s.getD i.toNat 0).toNat:Int) < 48)) (some (.ret,[.i 0])) (brK (decide (0<=i/\i < (s.length:Int))) (brK (decide (((s.getD i.toNat 0).toNat:Int) > 57)) (some (.ret,[.i 0]))
   (brK (decide (i > 8)) (some (.ret,[.i 0])) (brK (decide (0<=i/\i < (s.length:Int))) (some (.normal,[.s s,.i (W (W (10*n)+W (IntKind.u8.wrap (((s.getD i.toNat 0).toNat:Int) - 48)))),.i (W (i+1))])) none))) none)) none)
   (some (.exit 0,[.s s,.i n,.i i])):=by kernel_rfl
def D0b (s:List UInt8):AEx × St:=match whD s 0 0 with
 | some n=>(.exit 0,⟨spH.rho [.s s,.i n,.i s.length],spH.heap [.s s,.i n,.i s.length],[]⟩)
 | none=>(.ret,⟨spHr.rho [.i 0],spHr.heap [.i 0],[]⟩)
theorem G3m {A:Amb} (hT:Tab A) (s:List UInt8) {Bb:Heap} (hB:Bb.length=8) :
  SEB prog A Bb (.loop C7l) ⟨spH.rho [.s s,.i 0,.i 0],spH.heap [.s s,.i 0,.i 0],[]⟩ (D0b s).1 (D0b s).2:=by
 have hp:=I8 hT
 have hok:∀ e,okD 8 [] 0 (E2c e).h=true:=fun e=>by cases e <;> rfl
 refine SEB.while (fun x:Nat × Nat=>x.1<=s.length/\x.1<=9/\x.2 < 10 ^ x.1/\whD (s.drop x.1) x.1 x.2=whD s 0 0) (fun x=>s.length - x.1) (fun x=>⟨spH.rho [.s s,.i x.2,.i x.1],spH.heap [.s s,.i x.2,.i x.1],[]⟩) (fun _=>D0b s) (fun x hx=>?_) (0,0)
  ⟨Nat.zero_le _,Nat.zero_le _,by decide,rfl⟩
 obtain ⟨i,n⟩:=x
 obtain ⟨h1,h2,h3,h4⟩:=hx
 simp only at h1 h2 h3 h4 ⊢
 have hk:=F6j s n i
 rw [Int.toNat_natCast] at hk
 by_cases hi:i < s.length
 ·have hd:s.drop i=s.getD i 0 :: s.drop (i+1):=by
   rw [List.drop_eq_getElem_cons hi,List.getD_eq_getElem?_getD,List.getElem?_eq_getElem hi]; rfl
  rw [hd] at h4
  simp only [whD] at h4
  have hc:=(s.getD i 0).toNat_lt
  generalize s.getD i 0=c at *
  have e2:W ((i:Int)+1)=((i+1:Nat):Int):=by rw [R4 (by omega) (by omega)]; omega
  rw [e2,dT (show (i:Int) < (s.length:Int) by omega),dT (show 0<=(i:Int)/\(i:Int) < (s.length:Int) by omega)] at hk
  by_cases hbad:c.toNat < 48 \/ c.toNat > 57 \/ i > 8
  ·right
   rw [if_pos hbad] at h4
   have ho:D0b s=(.ret,⟨spHr.rho [.i 0],spHr.heap [.i 0],[]⟩):=by unfold D0b; rw [<- h4]
   rw [ho]
   have hk2:F3 prog (C9 prog lib2 60) F8 C7l (spH.rho [.s s,.i n,.i i]) (spH.heap [.s s,.i n,.i i]) (H5 E2c 8 [])=some (.ret,[.i 0]):=by
    rw [hk]
    by_cases b1:c.toNat < 48
    ·rw [dT (show (c.toNat:Int) < 48 by omega)]; rfl
    rw [dF (show ¬ (c.toNat:Int) < 48 by omega)]
    by_cases b2:c.toNat > 57
    ·rw [dT (show (c.toNat:Int) > 57 by omega)]; rfl
    rw [dF (show ¬ (c.toNat:Int) > 57 by omega),dT (show (i:Int) > 8 by omega)]; rfl
   exact ⟨by simp,SEB.of_KP (e:=.ret) (sp:=E2c) D6 D7 hp (.none _) hB hk2 (hok .ret)⟩
  ·left
   rw [if_neg hbad] at h4
   have hn:n < 10 ^ 9:=Nat.lt_of_lt_of_le h3 (Nat.pow_le_pow_right (by decide) h2)
   have e3:W (W (10*(n:Int))+W (IntKind.u8.wrap ((c.toNat:Int) - 48)))=((10*n+(c.toNat - 48):Nat):Int):=by
    have e4:IntKind.u8.wrap ((c.toNat:Int) - 48)=((c.toNat - 48:Nat):Int):=by
     rw [show (c.toNat:Int) - 48=((c.toNat - 48:Nat):Int) by omega]
     exact E7r (by omega) (by omega)
    rw [e4,R4 (n:=10*(n:Int)) (by omega) (by omega),R4 (n:=((c.toNat - 48:Nat):Int)) (by omega) (by omega),R4 (by omega) (by omega)]; omega
   rw [e3,dF (show ¬ (c.toNat:Int) < 48 by omega),dF (show ¬ (c.toNat:Int) > 57 by omega),dF (show ¬ (i:Int) > 8 by omega)] at hk
   refine ⟨(i+1,10*n+(c.toNat - 48)),⟨by simp only; omega,by simp only; omega,?_,h4⟩,by simp only; omega,trivial,SEB.of_KP (e:=.normal) (sp:=E2c) D6 D7 hp (.none _) hB hk (hok .normal)⟩
   simp only
   rw [Nat.pow_succ]; omega
 ·right
  have e:i=s.length:=by omega
  subst e
  rw [List.drop_length] at h4
  simp only [whD] at h4
  rw [dF (show ¬ (s.length:Int) < (s.length:Int) by omega)] at hk
  have ho:D0b s=(.exit 0,⟨spH.rho [.s s,.i n,.i s.length],spH.heap [.s s,.i n,.i s.length],[]⟩):=by unfold D0b; rw [<- h4]
  rw [ho]
  exact ⟨by simp,SEB.of_KP (e:=.exit 0) (sp:=E2c) D6 D7 hp (.none _) hB hk (hok _)⟩
def G3c:Blk:=hookP spH 8 [] fun
 | [.s s,.i n,.i i]=>.br (A9 (n=0/\i=0)) (.br (whD s 0 0).isSome (.leaf (.normal,spH,[.s s,.i ((whD s 0 0).getD 0:Nat),.i s.length])) (.leaf (.ret,spHr,[.i 0]))) .fail
 | _=>.fail
end Go.Proofs.Tryz
namespace Go.Proofs.Tryz
open Go.Ad
open Go.Lib (decDigits itoa nDigits decFrom digitVal)
def F4w:Prims:=pK2.addb 26 0 G3c
theorem F4t {A:Amb} (hT:Tab A) (hE:TabE A) (hR:TabR A) (hG:gN prog<=A.G):PrimOK prog A F4w:=by
 refine (E7c hT hE hR hG).addb func26 (show f26.body=some F0f by kernel_rfl) (body:=.loop C7l) (by kernel_rfl) (O8 (by rfl) fun ls e sq l h=>?_)
 split at h
 ·rename_i s n i
  obtain ⟨hc,hv⟩:=Tr.br1 h
  clear h
  obtain ⟨rfl,rfl⟩:=D9 hc
  have key:=fun (Bb:Heap) (hB:Bb.length=8)=>G3m hT s hB
  unfold D0b at key
  cases hq:whD s 0 0 with
  | none =>
   rw [hq] at hv
   simp only [Tr.get,Option.isSome_none,sI,pI] at hv
   obtain ⟨rfl,rfl,rfl⟩:=hv
   refine ⟨⟨.inr rfl,.inr rfl,.inr rfl,.inr rfl,.inr rfl,.inr rfl,.inr rfl,.inr rfl,trivial⟩,fun Bb hB=>SEB.block_other (id:=0) ?_ (by simp)⟩
   have:=key Bb hB
   rw [hq] at this
   exact this
  | some k =>
   rw [hq] at hv
   simp only [Tr.get,Option.isSome_some,sI,pI] at hv
   obtain ⟨rfl,rfl,rfl⟩:=hv
   refine ⟨⟨.inr rfl,.inr rfl,.inr rfl,.inr rfl,.inr rfl,.inr rfl,.inr rfl,.inr rfl,trivial⟩,fun Bb hB=>SEB.block_exit (id:=0) ?_⟩
   have:=key Bb hB
   rw [hq] at this
   exact this
 ·cases h
def C2c:List UInt8:=[49,48,48,48]
def tms (s:List UInt8):List UInt8:=R3 (D5o (A1p s).1*D5o C2c) (D4s (A1p s).1*D4s C2c)
def whZ (s:List UInt8):Int:=if (A1p s).2 ≠ 0 then 0 else (((whD (tms s) 0 0).getD 0:Nat):Int)
theorem G4y (s:List UInt8):(C9 prog F4w 60).call 26 [.sstr s] (Bg 8) G9 =
  brK (F4 s) (brK ((A1p s).2 != 0) (some (.int .i64 0)) (brK (A9 (smQ (A1p s).1/\smQ C2c)) (brK (A9 ((0:Int)=0/\(0:Int)=0)) (brK (whD (tms s) 0 0).isSome (some (.sint .i64 ((whD (tms s) 0 0).getD 0:Nat))) (some (.sint .i64 0))) none) none)) none:=by kernel_rfl
theorem H1s:smQ C2c/\D5o C2c=1000/\D4s C2c=1:=by
 have e:C2c=itoa 1000:=by decide +kernel
 have h:=Rq.itoa 1000
 rw [e]
 exact ⟨F0x (by decide),h.n,h.d⟩
theorem F9s {s:List UInt8} (h0:A3j s=0):smQ (A1p s).1/\(A1p s).2=0:=by
 obtain ⟨f,b,h⟩:=A9i h0
 obtain ⟨N,D,hv,hD,hg,he,hdv,hle⟩:=D9d h0 h
 have hl:=E0i h
 have hall:(f++b).all F5=true:=by rw [List.all_append,h.df,h.db]; rfl
 have h1:D8 0 (f++b) < 10 ^ (f++b).length:=by
  have:=B3d (f++b) 0 hall
  rw [Nat.zero_add,Nat.one_mul] at this
  exact this
 have h2:N < 10 ^ 100:=A2g 100 (Nat.lt_of_le_of_lt hle h1) (by rw [List.length_append]; omega)
 have h3:D < 10 ^ 100:=Nat.lt_of_le_of_lt (Nat.le_of_dvd (Nat.pow_pos (by decide)) hdv) (C1p 100 (by omega))
 rw [hv]
 refine ⟨Rq.sm (N:=N) (D:=D) ⟨rfl,by omega,by rw [Int.gcd_natCast_natCast]; exact hg⟩ ?_ ?_,rfl⟩
 ·rw [Int.natAbs_natCast]; exact h2
 ·rw [Int.natAbs_natCast]; exact h3
theorem F5r {s:List UInt8} (h:(A1p s).2=0):A3j s=0:=by
 unfold A1p at h
 split at h
 ·rename_i h1; exact absurd h h1
 ·rename_i h1; simpa using h1
def g26:List AV->Tr AV
 | [x]=>match sstr? x with
  | some s=>.br (F4 s) (.leaf (.sint .i64 (whZ s))) .fail
  | none=>.fail
 | _=>.fail
def pK3:Prims:=pK2.addt 26 g26
theorem E6l {A:Amb} (hT:Tab A) (hE:TabE A) (hR:TabR A) (hG:gN prog<=A.G):PrimOK prog A pK3:=by
 refine PrimOK.addt3 D6 D7 (E7c hT hE hR hG) hG func26 (by kernel_rfl) fun args v hv=>?_
 unfold g26 at hv
 split at hv
 ·rename_i x
  split at hv
  ·rename_i s hs
   obtain ⟨hz,hv⟩:=Tr.br1 hv
   cases hv
   have hq:∃ v',(C9 prog F4w 60).call 26 [.sstr s] (Bg (gN prog)) G9=some v'/\below 0 v'=true/\∀ ι x,VR ι v' x->VR ι (.sint .i64 (whZ s)) x:=by
    rw [gsz,G4y,hz]
    unfold whZ
    by_cases h0:(A1p s).2=0
    ·rw [show ((A1p s).2 != 0)=false by rw [h0]; rfl,if_neg (by simpa using h0),A8 ⟨(F9s (F5r h0)).1,H1s.1⟩,A8 ⟨rfl,rfl⟩]
     cases whD (tms s) 0 0 with
     | none=>exact ⟨_,rfl,rfl,fun ι x h=>h⟩
     | some k=>exact ⟨_,rfl,rfl,fun ι x h=>h⟩
    ·rw [show ((A1p s).2 != 0)=true by rw [bne_iff_ne]; exact h0,if_pos h0]; exact ⟨_,rfl,rfl,fun ι=>Q4 rfl⟩
   obtain ⟨v',q1,q2,q3⟩:=hq
   obtain ⟨B',hca⟩:=Ca.of_finV q1
   refine ⟨F4w,_,v',B',F4t hT hE hR hG,fun ι xs hx=>?_,fun ι x=>q3 ι x,rfl,q2,hca⟩
   simp only [VRL] at hx ⊢
   obtain ⟨y,r,e1,h1,h2⟩:=hx
   exact ⟨y,r,e1,by simp only [VR]; exact K5 hs h1,h2⟩
  ·cases hv
 ·cases hv
end Go.Proofs.Tryz
