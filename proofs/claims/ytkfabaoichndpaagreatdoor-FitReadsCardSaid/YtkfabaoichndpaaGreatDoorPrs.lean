/- Texts of classes: what the library's functions give at texts that are not known. -/
import Derived.Test.YtkfabaoichndpaaGreatDoorBase
import Derived.Test.YtkfabaoichndpaaGreatDoorAdLoop
import Derived.Lib.SmallJoins
import Derived.IntWalk
import Derived.Test.YtkfabaoichndpaaGreatDoorAdPat
noncomputable section
namespace Go.Proofs.Tryz
open Go.Ad
def J4 (b:UInt8):Bool:=decide (48<=b.toNat) && decide (b.toNat<=57)
def O9:Int->List UInt8->Int
 | a,[]=>a
 | a,b :: r=>O9 (10*a+((b.toNat:Int) - 48)) r
theorem B6e:∀ (l:List UInt8) (a:Nat),l.all J4=true->∃ n:Nat,Lib.decFrom a l=some n/\(n:Int)=O9 a l
 | [],a,_=>⟨a,rfl,rfl⟩
 | b :: r,a,h=>by
  simp only [List.all_cons,Bool.and_eq_true,J4,decide_eq_true_eq] at h
  obtain ⟨n,h1,h2⟩:=B6e r (a*10+(b.toNat - 48)) h.2
  refine ⟨n,?_,?_⟩
  ·simp only [Lib.decFrom,Lib.digitVal,if_pos h.1]; exact h1
  ·rw [h2,O9]
   congr 1
   omega
theorem E6y {l:List UInt8} (h:l.all J4=true) (h0:0 < l.length):Lib.atoi l=some (O9 0 l):=by
 match l,h,h0 with
 | b :: r,h,_ =>
  obtain ⟨n,h1,h2⟩:=B6e (b :: r) 0 h
  simp only [List.all_cons,Bool.and_eq_true,J4,decide_eq_true_eq] at h
  have e1:(b == 45)=false:=by
   rw [beq_eq_false_iff_ne]; intro e; subst e; exact absurd h.1.1 (by decide)
  have e2:(b == 43)=false:=by
   rw [beq_eq_false_iff_ne]; intro e; subst e; exact absurd h.1.1 (by decide)
  simp only [Lib.atoi,e1,e2,Bool.false_eq_true,if_false,Lib.decNat,List.isEmpty_cons,h1,Option.map_some,h2]
  rfl
theorem B8i:∀ {l:List UInt8} {a c:Int},l.all J4=true->0<=a->a<=c->0<=O9 a l/\O9 a l<=(c+1)*10 ^ l.length - 1
 | [],a,c,_,h1,h2=>by simp only [O9,List.length_nil,Int.pow_zero]; omega
 | b :: r,a,c,h,h1,h2=>by
  simp only [List.all_cons,Bool.and_eq_true,J4,decide_eq_true_eq] at h
  have:=B8i (l:=r) (a:=10*a+((b.toNat:Int) - 48)) (c:=10*c+9) h.2 (by omega) (by omega)
  simp only [O9,List.length_cons]
  refine ⟨this.1,?_⟩
  have e:(10*c+9+1)*10 ^ r.length=(c+1)*10 ^ (r.length+1):=by rw [Int.pow_succ]; rw [show (10*c+9+1:Int)=(c+1)*10 by omega,Int.mul_assoc,Int.mul_comm 10]
  rw [<- e]; exact this.2
def F2g:List AV->Tr AV
 | [x,.str cs]=>match sstr? x with
  | some s=>bif cs.all (fun b=>decide (b.toNat < 128)) && decide (cs.length<=1000) then .br (decide (s.length<=9223372036854775807)) (.leaf (.sstr (Lib.trimS s cs))) .fail else .fail
  | none=>.fail
 | _=>.fail
def D9q:List AV->Tr AV
 | [.str s,x]=>match sstr? x with
  | some t=>.br (decide (t.length=1)) (.leaf (.rng .i64 (Lib.indexByte s (t.headD 0)) (-1) ((s.length:Int) - 1))) .fail
  | none=>.fail
 | _=>.fail
def E4n:List AV->Tr AV
 | [x]=>match sstr? x with
  | some s=>.br (decide (0 < s.length) && (decide (s.length<=3) && s.all J4)) (.leaf (.tuple [.rng .i64 (O9 0 s) 0 999,.nilIface])) .fail
  | none=>.fail
 | _=>.fail
theorem sstr?_VR {ι:Emb} {x:AV} {s:List UInt8} (h:sstr? x=some s) {v:Value} (hv:VR ι x v):∃ b:ByteArray,b.data.toList=s/\v=.string b:=by
 cases x <;> simp [sstr?] at h
 all_goals (subst h; simp only [VR] at hv)
 ·exact hv
 ·exact hv.1
 ·exact hv
theorem indexByte_ge (c:UInt8):∀ l:List UInt8,-1<=Lib.indexByte l c/\Lib.indexByte l c<=(l.length:Int) - 1
 | []=>by simp [Lib.indexByte]
 | b :: r=>by
  have:=indexByte_ge c r
  simp only [Lib.indexByte,List.length_cons]
  split
  ·omega
  ·split
   ·omega
   ·rename_i h
    simp only [beq_iff_eq] at h
    omega
def prs (prims:Prims):Prims:=((prims.addt 57 F2g).addt 56 D9q).addt 54 E4n
theorem E7f {A:Amb} {prims:Prims} (hp:PrimOK prog A prims):PrimOK prog A (prs prims):=by
 refine PrimOK.libt (PrimOK.libt (PrimOK.libt hp func57 (by kernel_rfl) ?_) func56 (by kernel_rfl) ?_) func54 (by kernel_rfl) ?_
 ·intro args v hg ι w xs _ _ hx
  unfold F2g at hg
  split at hg
  ·rename_i x cs
   split at hg
   ·rename_i s hs
    cases hb:(cs.all (fun b=>decide (b.toNat < 128)) && decide (cs.length<=1000)) with
    | false=>rw [hb] at hg; cases hg
    | true =>
     rw [hb] at hg
     obtain ⟨h1,h2⟩:=Tr.br_get0 hg
     cases h2
     rw [decide_eq_true_eq] at h1
     simp only [Bool.and_eq_true,decide_eq_true_eq] at hb
     simp only [VRL] at hx
     obtain ⟨_,_,hxs,q1,_,_,rfl,q2,rfl⟩:=hx
     obtain ⟨b1,rfl,rfl⟩:=sstr?_VR hs q1
     simp only [VR] at q2
     obtain ⟨b2,rfl,rfl⟩:=q2
     have e1:xs=#[.string b1,.string b2]:=by apply Array.ext'; simpa using hxs
     subst e1
     have hl1:b1.data.toList.length=b1.size:=by simp
     have hl2:b2.data.toList.length=b2.size:=by simp
     refine (Any.strings_Trim_laid Tryz.lays160 (by kernel_rfl) b1 b2 w (by omega) (by omega) (ascii_of_all hb.1)).mono fun e w' ⟨h1,h2⟩=>?_
     subst h1
     exact ⟨_,rfl,by simp only [VR]; exact ⟨_,by simp,rfl⟩,⟨h2.size,h2.block,h2.tape,h2.os,h2.output⟩⟩
   ·cases hg
  ·cases hg
 ·intro args v hg ι w xs _ _ hx
  unfold D9q at hg
  split at hg
  ·rename_i s x
   split at hg
   ·rename_i t hs
    obtain ⟨h1,h2⟩:=Tr.br_get0 hg
    cases h2
    rw [decide_eq_true_eq] at h1
    simp only [VRL] at hx
    obtain ⟨_,_,hxs,q1,_,_,rfl,q2,rfl⟩:=hx
    simp only [VR] at q1
    obtain ⟨b1,rfl,rfl⟩:=q1
    obtain ⟨b2,rfl,rfl⟩:=sstr?_VR hs q2
    have e1:xs=#[.string b1,.string b2]:=by apply Array.ext'; simpa using hxs
    subst e1
    obtain ⟨⟨l2⟩⟩:=b2
    match l2,h1 with
    | [c],_ =>
     refine (Tryz.strings_Index_one b1 c w).mono fun e w' ⟨h1,h2⟩=>?_
     subst h1 h2
     exact ⟨_,rfl,by simp only [VR]; exact ⟨rfl,indexByte_ge _ _⟩,Quiet.refl _⟩
   ·cases hg
  ·cases hg
 ·intro args v hg ι w xs _ _ hx
  unfold E4n at hg
  split at hg
  ·rename_i x
   split at hg
   ·rename_i s hs
    obtain ⟨h1,h2⟩:=Tr.br_get0 hg
    cases h2
    simp only [Bool.and_eq_true,decide_eq_true_eq] at h1
    obtain ⟨h1,h2,h3⟩:=h1
    simp only [VRL] at hx
    obtain ⟨_,_,hxs,q1,rfl⟩:=hx
    obtain ⟨b1,rfl,rfl⟩:=sstr?_VR hs q1
    have e1:xs=#[.string b1]:=by apply Array.ext'; simpa using hxs
    subst e1
    have hl1:b1.data.toList.length=b1.size:=by simp
    refine (Tryz.strconv_Atoi b1 _ (by omega) (E6y h3 h1) w).mono fun e w' ⟨h1',t,h2'⟩=>?_
    subst h1' h2'
    refine ⟨_,rfl,?_,?_⟩
    ·have hbd:=B8i (a:=0) (c:=0) h3 (by omega) (by omega)
     have:(10:Int) ^ b1.data.toList.length<=1000:=by
      match b1.data.toList.length,h2 with
      | 0,_=>decide
      | 1,_=>decide
      | 2,_=>decide
      | 3,_=>decide
     simp only [VR,VRL]
     exact ⟨_,rfl,_,_,rfl,⟨rfl,hbd.1,by omega⟩,_,_,rfl,rfl,rfl⟩
    ·have hb:=Go.Joins.below_bytesWorld w.heap.size w 5 t (Nat.le_refl _)
     exact ⟨hb.size,hb.block,hb.tape,hb.os,hb.output⟩
   ·cases hg
  ·cases hg
end Go.Proofs.Tryz
namespace Go.Proofs.Tryz
open Go.Ad
def X5:List UInt8:=[100,101,102,103,104,106,107,109,110,112]
def A4q:List UInt8:=[68,69,70,71,72,74,75,77,78,80]
def D3z (b:Int):List UInt8->Int->Option AV
 | [],_=>some (.int .i64 (-1))
 | c :: r,i=>brK ((c.toNat:Int) == b) (some (.int .i64 i)) (D3z b r (i+1))
theorem G3j (b:Int):(C9 prog (prs B6m) 60).call 61 [.str X5,.rng .u8 b 0 255] (Bg 8) G9=D3z b X5 0:=by kernel_rfl
theorem G0b (b:Int):(C9 prog (prs B6m) 60).call 61 [.str A4q,.rng .u8 b 0 255] (Bg 8) G9=D3z b A4q 0:=by kernel_rfl
def B5b (l:List UInt8) (b:Int):Int:=Lib.indexByte l b.toNat.toUInt8
theorem E9f {b:Int} (hb:0<=b/\b<=255) (c:UInt8):(c == b.toNat.toUInt8)=((c.toNat:Int) == b):=by
 rw [Bool.eq_iff_iff,beq_iff_eq,beq_iff_eq]
 constructor
 ·intro h
  rw [h]
  have:b.toNat.toUInt8.toNat=b.toNat % 256:=by simp [Nat.toUInt8]
  rw [this]; omega
 ·intro h
  apply UInt8.toNat_inj.1
  have:b.toNat.toUInt8.toNat=b.toNat % 256:=by simp [Nat.toUInt8]
  rw [this]; omega
theorem D9x {b:Int} (hb:0<=b/\b<=255):∀ (l:List UInt8) (i:Int),D3z b l i=some (.int .i64 (if B5b l b=-1 then -1 else i+B5b l b))
 | [],i=>by simp [D3z,B5b,Lib.indexByte]
 | c :: r,i=>by
  have ih:=D9x hb r (i+1)
  have hge:=indexByte_ge b.toNat.toUInt8 r
  simp only [D3z,B5b,Lib.indexByte,E9f hb] at ih ⊢
  cases hc:((c.toNat:Int) == b) with
  | true=>simp [brK]
  | false =>
   simp only [brF,ih,Bool.false_eq_true,if_false,beq_iff_eq]
   by_cases h:Lib.indexByte r b.toNat.toUInt8=-1
   ·simp [h,brF]
   ·simp only [if_neg h]
    have:Lib.indexByte r b.toNat.toUInt8+1 ≠ -1:=by omega
    rw [if_neg this]
    congr 2; omega
def G7p:List AV->Tr AV
 | [.str l,x]=>match H8 x with
  | some (.u8,b)=>bif l == X5 || l == A4q then .br (decide (0<=b/\b<=255)) (.leaf (.rng .i64 (B5b l b) (-1) 9)) .fail else .fail
  | _=>.fail
 | _=>.fail
def B4v:Prims:=(prs B6m).addt 61 G7p
theorem F4z {A:Amb} (hT:Tab A) (hG:gN prog<=A.G):PrimOK prog A B4v:=PrimOK.addt D6 D7 (E7f (C4y hT hG)) hG func61 (by kernel_rfl) fun args v hg=>by
 unfold G7p at hg
 split at hg
 ·rename_i l x
  split at hg
  ·rename_i b hx
   cases hb:(l == X5 || l == A4q) with
   | false=>rw [hb] at hg; cases hg
   | true =>
    rw [hb] at hg
    obtain ⟨h1,h2⟩:=Tr.br_get0 hg
    cases h2
    rw [decide_eq_true_eq] at h1
    have hr:(C9 prog (prs B6m) 60).call 61 [.str l,.rng .u8 b 0 255] (Bg 8) G9=D3z b l 0:=by
     rw [Bool.or_eq_true,beq_iff_eq,beq_iff_eq] at hb
     rcases hb with rfl | rfl
     ·exact G3j b
     ·exact G0b b
    rw [D9x h1] at hr
    obtain ⟨B',hca⟩:=Ca.of_finV hr
    have hlen:l.length=10:=by
     rw [Bool.or_eq_true,beq_iff_eq,beq_iff_eq] at hb
     rcases hb with rfl | rfl <;> rfl
    refine ⟨_,_,B',fun ι xs hx'=>?_,fun ι x hv=>?_,rfl,rfl,by rw [gsz]; exact hca⟩
    ·simp only [VRL] at hx' ⊢
     obtain ⟨_,_,rfl,q1,_,_,rfl,q2,rfl⟩:=hx'
     exact ⟨_,_,rfl,q1,_,_,rfl,by simp only [VR]; exact ⟨F7 hx q2,h1⟩,rfl⟩
    ·simp only [VR] at hv ⊢
     have hge:=indexByte_ge b.toNat.toUInt8 l
     rw [hv]
     unfold B5b
     refine ⟨?_,by omega,by omega⟩
     split
     ·rename_i h; rw [h]
     ·rw [Int.zero_add]
  ·cases hg
 ·cases hg
end Go.Proofs.Tryz
namespace Go.Proofs.Tryz
open Go.Ad
def X3 (e:Int):AV:=.tuple [.agg [.bool false,.int .i64 0,.int .i64 0],.int .i64 e]
def s0 (s:List UInt8):UInt8:=s.getD 0 0
def dgt (s:List UInt8):List UInt8:=s.drop 1
def A1q (s:List UInt8):Int:=O9 0 (dgt s)
def A4i (s:List UInt8):Bool:=decide ((s0 s).toNat < 97)
def B0v (s:List UInt8):Int:=if A4i s then Lib.indexByte A4q (s0 s) else Lib.indexByte X5 (s0 s)
def okS (s:List UInt8):Bool:=(decide (2<=s.length) && decide (s.length<=4)) && (decide (0<=B0v s) && ((dgt s).all J4 && !(decide (s.getD 1 0=48) && decide (2 < s.length))))
def okG (s:List UInt8):Bool:=decide (5<=A1q s) && decide (A1q s<=12)
def F6w (s:List UInt8):AV:=.tuple [.agg [.sbool (A4i s),.rng .i64 (B0v s) 0 9,.rng .i64 (A1q s) 5 12],.int .i64 0]
theorem E5b (b:UInt8):(b.toNat < 97->Lib.indexByte X5 b=-1)/\(¬ b.toNat < 97->Lib.indexByte A4q b=-1):=by
 have h:((List.range 256).all fun n=>(!(decide (n < 97)) || Lib.indexByte X5 n.toUInt8 == -1) && (decide (n < 97) || Lib.indexByte A4q n.toUInt8 == -1))=true:=by kernel_rfl
 have hb:=List.all_eq_true.1 h b.toNat (List.mem_range.2 b.toNat_lt)
 have e:b.toNat.toUInt8=b:=by simp
 rw [e] at hb
 simp only [Bool.and_eq_true,Bool.or_eq_true,Bool.not_eq_true',decide_eq_false_iff_not,decide_eq_true_eq,beq_iff_eq] at hb
 exact ⟨fun h=>hb.1.resolve_left (fun g=>g h),fun h=>hb.2.resolve_left h⟩
def D0z (s L:List UInt8):Option AV :=
 brK (decide (0 < (List.drop 1 (List.take s.length s)).length) && (decide ((List.drop 1 (List.take s.length s)).length<=3) && (List.drop 1 (List.take s.length s)).all J4))
  (brK (decide (O9 0 (List.drop 1 (List.take s.length s)) < 5)) (some (X3 2)) (brK (decide (O9 0 (List.drop 1 (List.take s.length s)) > 12)) (some (X3 2))
   (some (.tuple [.agg [.sbool (decide (((s.getD 0 0).toNat:Int) < 97)),.rng .i64 (Lib.indexByte L ((List.drop 0 (List.take 1 s)).headD 0)) (-1) 9,.rng .i64 (O9 0 (List.drop 1 (List.take s.length s))) 0 999],.int .i64 0])))) none
def digsS:List UInt8:=[48,49,50,51,52,53,54,55,56,57]
def C8s (s L:List UInt8):Option AV :=
 brK (true && decide ((0:Int)<=1/\(1:Int)<=s.length)) (brK (decide (Lib.indexByte L ((List.drop 0 (List.take 1 s)).headD 0) < 0)) (some (X3 4)) (brK (decide ((List.drop 1 (List.take s.length s)).length<=9223372036854775807))
  (brK (!Lib.trimS (List.drop 1 (List.take s.length s)) digsS == []) (some (X3 4)) (brK (decide ((0:Int)<=0/\(0:Int) < (List.drop 1 (List.take s.length s)).length))
   (brK (((List.drop 1 (List.take s.length s)).getD 0 0).toNat == (48:Int)) (brK (decide (((List.drop 1 (List.take s.length s)).length:Int) > 1)) (some (X3 4)) (D0z s L)) (D0z s L)) none)) none)) none
def C6s (s:List UInt8):Option AV :=
 brK (decide ((0:Int)<=0/\(0:Int) < s.length)) (brK (decide ((0:Int)<=1/\(1:Int)<=s.length) && true) (brK (decide ((List.drop 0 (List.take 1 s)).length=1))
  (brK (decide (((s.getD 0 0).toNat:Int) < 97)) (brK (decide ((0:Int)<=1/\(1:Int)<=s.length) && true) (brK (decide ((List.drop 0 (List.take 1 s)).length=1)) (C8s s A4q) none) none) (C8s s X5)) none) none) none
theorem G5u (s:List UInt8):(C9 prog B4v 60).call 24 [.lstr s 2 4] (Bg 8) G9=C6s s:=by kernel_rfl
theorem G0r (s:List UInt8):(C9 prog B4v 60).call 24 [.lstr s 0 1] (Bg 8) G9=some (X3 4):=by kernel_rfl
theorem G2c (s:List UInt8):(C9 prog B4v 60).call 24 [.lstr s 5 9223372036854775807] (Bg 8) G9=some (X3 4):=by kernel_rfl
def A6e (s L:List UInt8) (h:Bool):List Nat->Int->Int->Option AV
 | [],g,_=>brK (decide (B5b L ((s.getD 0 0).toNat:Int) < 0)) (some (X3 1)) (brK (decide (g < 5)) (some (X3 2)) (brK (decide (g > 12)) (some (X3 2))
   (some (.tuple [.agg [.bool h,.rng .i64 (B5b L ((s.getD 0 0).toNat:Int)) (-1) 9,.sint .i64 g],.int .i64 0]))))
 | i :: r,_,t=>brK (decide ((0:Int)<=(i:Int)/\(i:Int) < s.length)) (brK (decide (((s.getD i 0).toNat:Int) < 48)) (some (X3 4)) (brK (decide ((0:Int)<=(i:Int)/\(i:Int) < s.length)) (brK (decide (((s.getD i 0).toNat:Int) > 57)) (some (X3 4))
   (brK (decide ((0:Int)<=(i:Int)/\(i:Int) < s.length)) (A6e s L h r (IntKind.i64.wrap (t+IntKind.i64.wrap (IntKind.u8.wrap (((s.getD i 0).toNat:Int) - 48)))) (IntKind.i64.wrap (10*IntKind.i64.wrap (t+IntKind.i64.wrap (IntKind.u8.wrap (((s.getD i 0).toNat:Int) - 48)))))) none)) none)) none
def B9q (s L:List UInt8) (h two:Bool) (is:List Nat):Option AV :=
 brK (decide ((0:Int)<=1/\(1:Int) < s.length)) (brK (((s.getD 1 0).toNat:Int) == 48) (if two then A6e s L h is 0 0 else some (X3 4)) (A6e s L h is 0 0)) none
def B4q (s:List UInt8) (two:Bool) (is:List Nat):Option AV :=
 brK (decide ((0:Int)<=0/\(0:Int) < s.length)) (brK (decide ((0:Int)<=((s.getD 0 0).toNat:Int)/\((s.getD 0 0).toNat:Int)<=255)) (brK (decide (B5b X5 ((s.getD 0 0).toNat:Int) < 0))
  (brK (decide ((0:Int)<=0/\(0:Int) < s.length)) (brK (decide ((0:Int)<=((s.getD 0 0).toNat:Int)/\((s.getD 0 0).toNat:Int)<=255)) (brK (decide (B5b A4q ((s.getD 0 0).toNat:Int) < 0)) (some (X3 4)) (B9q s A4q true two is)) none) none)
  (brK (decide (B5b X5 ((s.getD 0 0).toNat:Int) < 0)) (some (X3 4)) (B9q s X5 false two is))) none) none
theorem F9a (s:List UInt8):(C9 prog B4v 60).call 27 [.lstr s 2 2] (Bg 8) G9=B4q s true [1]:=by kernel_rfl
theorem G4b (s:List UInt8):(C9 prog B4v 60).call 27 [.lstr s 3 3] (Bg 8) G9=B4q s false [1,2]:=by kernel_rfl
theorem G2l (s:List UInt8):(C9 prog B4v 60).call 27 [.lstr s 4 4] (Bg 8) G9=B4q s false [1,2,3]:=by kernel_rfl
theorem F9v (s:List UInt8):(C9 prog B4v 60).call 27 [.lstr s 0 1] (Bg 8) G9=some (X3 4):=by kernel_rfl
theorem G4l (s:List UInt8):(C9 prog B4v 60).call 27 [.lstr s 5 9223372036854775807] (Bg 8) G9=some (X3 4):=by kernel_rfl
end Go.Proofs.Tryz
namespace Go.Proofs.Tryz
open Go.Ad
theorem B4h (L:List UInt8) (b:UInt8):B5b L (b.toNat:Int)=Lib.indexByte L b:=by
 unfold B5b
 simp
theorem A1y {p:UInt8->Bool}:∀ {l:List UInt8},l.dropWhile p=[] ↔ l.all p=true
 | []=>by simp
 | b :: r=>by
  simp only [List.dropWhile_cons,List.all_cons,Bool.and_eq_true]
  cases h:p b with
  | true=>simp only [if_true,true_and]; exact A1y
  | false=>simp
theorem E3l (b:UInt8):digsS.contains b=J4 b:=by
 have h:((List.range 256).all fun n=>digsS.contains n.toUInt8 == J4 n.toUInt8)=true:=by kernel_rfl
 have hb:=List.all_eq_true.1 h b.toNat (List.mem_range.2 b.toNat_lt)
 have e:b.toNat.toUInt8=b:=by simp
 rw [e] at hb
 simpa using hb
theorem E2d (l:List UInt8):(Lib.trimS l digsS == [])=l.all J4:=by
 have e:(fun b=>digsS.contains b)=J4:=funext E3l
 rw [Bool.eq_iff_iff,beq_iff_eq]
 simp only [Lib.trimS,Lib.trimLeftS,Lib.trimRightS,e]
 rw [A1y]
 constructor
 ·intro h
  cases ha:l.all J4 with
  | true=>rfl
  | false =>
   exfalso
   have hne:l.reverse.dropWhile J4 ≠ []:=by
    intro h2
    rw [A1y,List.all_reverse,ha] at h2; cases h2
   match hd:l.reverse.dropWhile J4,hne with
   | b :: r,_ =>
    have h1:J4 b=false:=by
     have:=List.head?_dropWhile_not J4 l.reverse
     rw [hd] at this
     simpa using this
    rw [hd,List.all_reverse,List.all_cons,h1] at h
    cases h
 ·intro h
  have:l.reverse.dropWhile J4=[]:=by rw [A1y,List.all_reverse]; exact h
  rw [this]; rfl
theorem E6v {c0:UInt8} {r L:List UInt8} (hr:1<=r.length/\r.length<=3) (hd:r.all J4=true) :
  D0z (c0 :: r) L=if 5<=O9 0 r/\O9 0 r<=12 then some (.tuple [.agg [.sbool (decide (c0.toNat < 97)),.rng .i64 (Lib.indexByte L c0) (-1) 9,.rng .i64 (O9 0 r) 0 999],.int .i64 0]) else some (X3 2):=by
 have e:List.drop 1 (List.take (c0 :: r).length (c0 :: r))=r:=by rw [List.take_length]; rfl
 unfold D0z
 rw [e,hd,dT (by omega:0 < r.length),dT hr.2]
 simp only [Bool.true_and,brT]
 by_cases h1:O9 0 r < 5
 ·rw [dT h1,brT,if_neg (by omega)]
 ·rw [dF h1,brF]
  by_cases h2:O9 0 r > 12
  ·rw [dT h2,brT,if_neg (by omega)]
  ·rw [dF h2,brF,if_pos (by omega)]
   have:(decide (((List.getD (c0 :: r) 0 0).toNat:Int) < 97))=decide (c0.toNat < 97):=by
    rw [decide_eq_decide]; simp only [List.getD_cons_zero]; omega
   rw [this]; rfl
theorem E5t {c0:UInt8} {r L:List UInt8} (hr:1<=r.length/\r.length<=3) :
  C8s (c0 :: r) L=if 0<=Lib.indexByte L c0/\r.all J4=true/\¬ (r.getD 0 0=48/\1 < r.length) then D0z (c0 :: r) L else some (X3 4):=by
 have e:List.drop 1 (List.take (c0 :: r).length (c0 :: r))=r:=by rw [List.take_length]; rfl
 have e2:(List.drop 0 (List.take 1 (c0 :: r))).headD 0=c0:=rfl
 unfold C8s
 rw [e,e2,E2d,dT (by simp; omega:(0:Int)<=1/\(1:Int)<=((c0 :: r).length:Int)),Bool.true_and,brT,dT (by omega:r.length<=9223372036854775807),dT (by omega:(0:Int)<=0/\(0:Int) < (r.length:Int))]
 by_cases h1:Lib.indexByte L c0 < 0
 ·rw [dT h1,brT,if_neg (by omega)]
 ·rw [dF h1,brF,brT]
  cases hd:r.all J4 with
  | false=>rw [Bool.not_false,brT,if_neg (by simp)]
  | true =>
   rw [Bool.not_true,brF,brT]
   have e48:((r.getD 0 0).toNat == (48:Int))=decide (r.getD 0 0=48):=by
    rw [Bool.eq_iff_iff,beq_iff_eq,decide_eq_true_eq,<- UInt8.toNat_inj]
    simp only [UInt8.reduceToNat]; omega
   have e1:decide ((r.length:Int) > 1)=decide (1 < r.length):=by rw [decide_eq_decide]; omega
   rw [e48,e1]
   by_cases h2:r.getD 0 0=48
   ·rw [dT h2,brT]
    by_cases h3:1 < r.length
    ·rw [dT h3,brT,if_neg (fun h=>h.2.2 ⟨h2,h3⟩)]
    ·rw [dF h3,brF,if_pos ⟨by omega,rfl,fun h=>h3 h.2⟩]
   ·rw [dF h2,brF,if_pos ⟨by omega,rfl,fun h=>h2 h.1⟩]
theorem E1s {c0:UInt8} {r:List UInt8} (hr:1<=r.length/\r.length<=3):C6s (c0 :: r)=C8s (c0 :: r) (if c0.toNat < 97 then A4q else X5):=by
 unfold C6s
 have e1:decide ((0:Int)<=0/\(0:Int) < ((c0 :: r).length:Int))=true:=dT (by simp only [List.length_cons]; omega)
 have e2:decide ((0:Int)<=1/\(1:Int)<=((c0 :: r).length:Int))=true:=dT (by simp only [List.length_cons]; omega)
 have e3:decide ((List.drop 0 (List.take 1 (c0 :: r))).length=1)=true:=rfl
 have e4:decide (((List.getD (c0 :: r) 0 0).toNat:Int) < 97)=decide (c0.toNat < 97):=by rw [decide_eq_decide]; simp only [List.getD_cons_zero]; omega
 rw [e1,e2,e3,e4]
 simp only [Bool.true_and,brT]
 by_cases h:c0.toNat < 97
 ·rw [dT h,brT,if_pos h]
 ·rw [dF h,brF,if_neg h]
def B0c (s:List UInt8):AV:=bif okS s then (bif okG s then F6w s else X3 2) else X3 4
theorem D5m {s:List UInt8} (hs:2<=s.length/\s.length<=4):∃ v',C6s s=some v'/\(∀ ι x,VR ι v' x->VR ι (B0c s) x)/\below 0 v'=true:=by
 match s,hs with
 | c0 :: r,hs =>
  have hr:1<=r.length/\r.length<=3:=by simp only [List.length_cons] at hs; omega
  rw [E1s hr,E5t hr]
  have eL:B0v (c0 :: r)=Lib.indexByte (if c0.toNat < 97 then A4q else X5) c0:=by
   unfold B0v A4i s0
   by_cases h:c0.toNat < 97 <;> simp [h]
  have eok:okS (c0 :: r)=decide (0<=Lib.indexByte (if c0.toNat < 97 then A4q else X5) c0/\r.all J4=true/\¬ (r.getD 0 0=48/\1 < r.length)):=by
   rw [Bool.eq_iff_iff]
   simp only [okS,eL,dgt,List.drop_succ_cons,List.drop_zero,List.length_cons,Bool.and_eq_true,decide_eq_true_eq,Bool.not_eq_true',Bool.and_eq_false_iff,decide_eq_false_iff_not]
   constructor
   ·rintro ⟨_,h1,h2,h3⟩
    refine ⟨h1,h2,fun h=>?_⟩
    rcases h3 with h3 | h3
    ·exact h3 h.1
    ·omega
   ·rintro ⟨h1,h2,h3⟩
    refine ⟨by omega,h1,h2,?_⟩
    by_cases h4:r.getD 0 0=48
    ·exact .inr fun h5=>h3 ⟨h4,by omega⟩
    ·exact .inl h4
  by_cases h:0<=Lib.indexByte (if c0.toNat < 97 then A4q else X5) c0/\r.all J4=true/\¬ (r.getD 0 0=48/\1 < r.length)
  ·rw [if_pos h,E6v hr h.2.1]
   have e1:okS (c0 :: r)=true:=by rw [eok]; exact dT h
   unfold B0c
   rw [e1,cond_true]
   by_cases hg:5<=O9 0 r/\O9 0 r<=12
   ·rw [if_pos hg]
    have e2:okG (c0 :: r)=true:=by simp only [okG,A1q,dgt,List.drop_succ_cons,List.drop_zero,dT hg.1,dT hg.2]; rfl
    rw [e2,cond_true]
    refine ⟨_,rfl,fun ι x hx=>?_,rfl⟩
    simp only [F6w,eL,A4i,s0,A1q,dgt,List.drop_succ_cons,List.drop_zero,List.getD_cons_zero]
    simp only [VR,VRL] at hx ⊢
    obtain ⟨xs,e0,y0,l0,q1,⟨zs,e3,z0,m0,r1,r2,z1,m1,r3,r4,z2,m2,r5,r6,r7⟩,q2⟩:=hx
    exact ⟨xs,e0,y0,l0,q1,⟨zs,e3,z0,m0,r1,r2,z1,m1,r3,⟨r4.1,h.1,r4.2.2⟩,z2,m2,r5,⟨r6.1,hg⟩,r7⟩,q2⟩
   ·rw [if_neg hg]
    have e2:okG (c0 :: r)=false:=by
     simp only [okG,A1q,dgt,List.drop_succ_cons,List.drop_zero,Bool.and_eq_false_iff,decide_eq_false_iff_not]
     by_cases h1:5<=O9 0 r
     ·exact .inr fun h2=>hg ⟨h1,h2⟩
     ·exact .inl h1
    rw [e2,cond_false]
    exact ⟨_,rfl,fun _ _ h=>h,rfl⟩
  ·rw [if_neg h]
   have e1:okS (c0 :: r)=false:=by rw [eok]; exact dF h
   unfold B0c
   rw [e1,cond_false]
   exact ⟨_,rfl,fun _ _ h=>h,rfl⟩
end Go.Proofs.Tryz
namespace Go.Proofs.Tryz
open Go.Ad
def B2m (c0:UInt8) (L:List UInt8) (h:Bool) (g:Int):Option AV :=
 if 0<=Lib.indexByte L c0 then (if 5<=g/\g<=12 then some (.tuple [.agg [.bool h,.rng .i64 (Lib.indexByte L c0) (-1) 9,.sint .i64 g],.int .i64 0]) else some (X3 2)) else some (X3 1)
theorem B3w {c0:UInt8} {r L:List UInt8} {h:Bool} {g t:Int}:A6e (c0 :: r) L h [] g t=B2m c0 L h g:=by
 unfold A6e B2m
 rw [List.getD_cons_zero,B4h]
 by_cases h1:Lib.indexByte L c0 < 0
 ·rw [dT h1,brT,if_neg (by omega)]
 ·rw [dF h1,brF,if_pos (by omega)]
  by_cases h2:g < 5
  ·rw [dT h2,brT,if_neg (by omega)]
  ·rw [dF h2,brF]
   by_cases h3:g > 12
   ·rw [dT h3,brT,if_neg (by omega)]
   ·rw [dF h3,brF,if_pos (by omega)]
theorem A1w {s L:List UInt8} {h:Bool} {is:List Nat} {i:Nat} {g a:Int} (hi:i < s.length) (ha:0<=a/\a<=999) :
  A6e s L h (i :: is) g (10*a)=if J4 (s.getD i 0)=true then A6e s L h is (10*a+(((s.getD i 0).toNat:Int) - 48)) (10*(10*a+(((s.getD i 0).toNat:Int) - 48))) else some (X3 4):=by
 have hb:decide ((0:Int)<=(i:Int)/\(i:Int) < s.length)=true:=dT (by omega)
 have h255:=(s.getD i 0).toNat_lt
 rw [A6e,hb,brT,brT,brT]
 by_cases h1:((s.getD i 0).toNat:Int) < 48
 ·rw [dT h1,brT,if_neg]
  simp only [J4,Bool.and_eq_true,decide_eq_true_eq]; omega
 ·rw [dF h1,brF]
  by_cases h2:((s.getD i 0).toNat:Int) > 57
  ·rw [dT h2,brT,if_neg]
   simp only [J4,Bool.and_eq_true,decide_eq_true_eq]; omega
  ·rw [dF h2,brF,if_pos (by simp only [J4,Bool.and_eq_true,decide_eq_true_eq]; omega)]
   rw [IntWalk.u8_in _ (by omega),IntWalk.i64_in (((s.getD i 0).toNat:Int) - 48) (by omega),IntWalk.i64_in (10*a+(((s.getD i 0).toNat:Int) - 48)) (by omega),IntWalk.i64_in _ (by omega)]
theorem F5x {c0 a:UInt8} {L:List UInt8} {h:Bool}:A6e [c0,a] L h [1] 0 0=if [a].all J4=true then B2m c0 L h (O9 0 [a]) else some (X3 4):=by
 rw [show (0:Int)=10*0 by omega,A1w (by simp) (by omega),B3w]
 have e1:List.getD [c0,a] 1 0=a:=rfl
 rw [e1]
 simp only [List.all_cons,List.all_nil,Bool.and_true,O9]
 rfl
theorem F3w {c0 a b:UInt8} {L:List UInt8} {h:Bool}:A6e [c0,a,b] L h [1,2] 0 0=if [a,b].all J4=true then B2m c0 L h (O9 0 [a,b]) else some (X3 4):=by
 rw [show (0:Int)=10*0 by omega,A1w (by simp) (by omega)]
 have e1:List.getD [c0,a,b] 1 0=a:=rfl
 have e2:List.getD [c0,a,b] 2 0=b:=rfl
 rw [e1]
 simp only [List.all_cons,List.all_nil,Bool.and_true,O9]
 by_cases h1:J4 a=true
 ·have h1':=h1
  simp only [J4,Bool.and_eq_true,decide_eq_true_eq] at h1'
  rw [if_pos h1,A1w (by simp) (by omega),B3w,e2,h1,Bool.true_and]
  rfl
 ·rw [if_neg h1,if_neg (fun h=>h1 (by simp only [Bool.and_eq_true] at h; exact h.1))]
theorem F4f {c0 a b c:UInt8} {L:List UInt8} {h:Bool}:A6e [c0,a,b,c] L h [1,2,3] 0 0=if [a,b,c].all J4=true then B2m c0 L h (O9 0 [a,b,c]) else some (X3 4):=by
 rw [show (0:Int)=10*0 by omega,A1w (by simp) (by omega)]
 have e1:List.getD [c0,a,b,c] 1 0=a:=rfl
 have e2:List.getD [c0,a,b,c] 2 0=b:=rfl
 have e3:List.getD [c0,a,b,c] 3 0=c:=rfl
 rw [e1]
 simp only [List.all_cons,List.all_nil,Bool.and_true,O9]
 by_cases h1:J4 a=true
 ·have h1':=h1
  simp only [J4,Bool.and_eq_true,decide_eq_true_eq] at h1'
  rw [if_pos h1,A1w (by simp) (by omega),e2]
  by_cases h2:J4 b=true
  ·have h2':=h2
   simp only [J4,Bool.and_eq_true,decide_eq_true_eq] at h2'
   rw [if_pos h2,A1w (by simp) (by omega),B3w,e3,h1,h2,Bool.true_and,Bool.true_and]
   rfl
  ·rw [if_neg h2,if_neg (fun h=>h2 (by simp only [Bool.and_eq_true] at h; exact h.2.1))]
 ·rw [if_neg h1,if_neg (fun h=>h1 (by simp only [Bool.and_eq_true] at h; exact h.1))]
theorem F1h {c0:UInt8} {r L:List UInt8} {h two:Bool} {is:List Nat} (hr:1<=r.length) (h2:two=decide (r.length=1)) (hd:A6e (c0 :: r) L h is 0 0=if r.all J4=true then B2m c0 L h (O9 0 r) else some (X3 4)) :
  B9q (c0 :: r) L h two is=if r.all J4=true/\¬ (r.getD 0 0=48/\1 < r.length) then B2m c0 L h (O9 0 r) else some (X3 4):=by
 unfold B9q
 have e1:List.getD (c0 :: r) 1 0=r.getD 0 0:=by cases r <;> rfl
 have e48:((r.getD 0 0).toNat == (48:Int))=decide (r.getD 0 0=48):=by
  rw [Bool.eq_iff_iff,beq_iff_eq,decide_eq_true_eq,<- UInt8.toNat_inj]
  simp only [UInt8.reduceToNat]; omega
 rw [e1,dT (by simp only [List.length_cons]; omega:(0:Int)<=1/\(1:Int) < ((c0 :: r).length:Int)),brT,hd]
 have e48':(((r.getD 0 0).toNat:Int) == 48)=decide (r.getD 0 0=48):=e48
 rw [e48',h2]
 by_cases h3:r.getD 0 0=48
 ·rw [dT h3,brT]
  by_cases h4:r.length=1
  ·rw [if_pos (dT h4)]
   by_cases h5:r.all J4=true
   ·rw [if_pos h5,if_pos ⟨h5,fun h=>by omega⟩]
   ·rw [if_neg h5,if_neg fun h=>h5 h.1]
  ·rw [if_neg (by simp [h4]),if_neg (fun h=>h.2 ⟨h3,by omega⟩)]
 ·rw [dF h3,brF]
  by_cases h5:r.all J4=true
  ·rw [if_pos h5,if_pos ⟨h5,fun h=>h3 h.1⟩]
  ·rw [if_neg h5,if_neg fun h=>h5 h.1]
theorem E2y {c0:UInt8} {r:List UInt8} {two:Bool} {is:List Nat}:B4q (c0 :: r) two is =
  if 0<=Lib.indexByte X5 c0 then B9q (c0 :: r) X5 false two is else if 0<=Lib.indexByte A4q c0 then B9q (c0 :: r) A4q true two is else some (X3 4):=by
 unfold B4q
 have h255:=c0.toNat_lt
 rw [List.getD_cons_zero,B4h,B4h,dT (by simp only [List.length_cons]; omega:(0:Int)<=0/\(0:Int) < ((c0 :: r).length:Int)),brT,dT (by omega:(0:Int)<=(c0.toNat:Int)/\(c0.toNat:Int)<=255),brT,brT,brT]
 by_cases h1:Lib.indexByte X5 c0 < 0
 ·rw [dT h1,brT,if_neg (by omega)]
  by_cases h2:Lib.indexByte A4q c0 < 0
  ·rw [dT h2,brT,if_neg (by omega)]
  ·rw [dF h2,brF,if_pos (by omega)]
 ·rw [dF h1,brF,brF,if_pos (by omega)]
theorem B1e {c0:UInt8} {r:List UInt8} {two:Bool} {is:List Nat} (hr:1<=r.length/\r.length<=3) (h2:two=decide (r.length=1))
  (hd:∀ L h,A6e (c0 :: r) L h is 0 0=if r.all J4=true then B2m c0 L h (O9 0 r) else some (X3 4)):∃ v',B4q (c0 :: r) two is=some v'/\(∀ ι x,VR ι v' x->VR ι (B0c (c0 :: r)) x)/\below 0 v'=true:=by
 have hlc:=E5b c0
 have eL:B0v (c0 :: r)=Lib.indexByte (if c0.toNat < 97 then A4q else X5) c0:=by
  unfold B0v A4i s0
  by_cases h:c0.toNat < 97 <;> simp [h]
 have eok:okS (c0 :: r)=decide (0<=Lib.indexByte (if c0.toNat < 97 then A4q else X5) c0/\r.all J4=true/\¬ (r.getD 0 0=48/\1 < r.length)):=by
  rw [Bool.eq_iff_iff]
  simp only [okS,eL,dgt,List.drop_succ_cons,List.drop_zero,List.length_cons,Bool.and_eq_true,decide_eq_true_eq,Bool.not_eq_true',Bool.and_eq_false_iff,decide_eq_false_iff_not]
  have e1:List.getD (c0 :: r) 1 0=r.getD 0 0:=by cases r <;> rfl
  rw [e1]
  constructor
  ·rintro ⟨_,h1,h2,h3⟩
   refine ⟨h1,h2,fun h=>?_⟩
   rcases h3 with h3 | h3
   ·exact h3 h.1
   ·omega
  ·rintro ⟨h1,h2,h3⟩
   refine ⟨by omega,h1,h2,?_⟩
   by_cases h4:r.getD 0 0=48
   ·exact .inr fun h5=>h3 ⟨h4,by omega⟩
   ·exact .inl h4
 have fin:∀ (L:List UInt8) (h:Bool),h=decide (c0.toNat < 97)->L=(if c0.toNat < 97 then A4q else X5)->0<=Lib.indexByte L c0 ->
   ∃ v',B9q (c0 :: r) L h two is=some v'/\(∀ ι x,VR ι v' x->VR ι (B0c (c0 :: r)) x)/\below 0 v'=true:=by
  intro L h hh hL h0
  rw [F1h hr.1 h2 (hd L h)]
  by_cases h3:r.all J4=true/\¬ (r.getD 0 0=48/\1 < r.length)
  ·rw [if_pos h3]
   have e1:okS (c0 :: r)=true:=by rw [eok]; exact dT ⟨hL ▸ h0,h3⟩
   unfold B0c B2m
   rw [e1,cond_true,if_pos h0]
   by_cases hg:5<=O9 0 r/\O9 0 r<=12
   ·rw [if_pos hg]
    have e2:okG (c0 :: r)=true:=by simp only [okG,A1q,dgt,List.drop_succ_cons,List.drop_zero,dT hg.1,dT hg.2]; rfl
    rw [e2,cond_true]
    refine ⟨_,rfl,fun ι x hx=>?_,rfl⟩
    simp only [F6w,eL,A4i,s0,A1q,dgt,List.drop_succ_cons,List.drop_zero,List.getD_cons_zero]
    subst hh hL
    simp only [VR,VRL] at hx ⊢
    obtain ⟨xs,e0,y0,l0,q1,⟨zs,e3,z0,m0,r1,r2,z1,m1,r3,r4,z2,m2,r5,r6,r7⟩,q2⟩:=hx
    exact ⟨xs,e0,y0,l0,q1,⟨zs,e3,z0,m0,r1,r2,z1,m1,r3,⟨r4.1,h0,r4.2.2⟩,z2,m2,r5,⟨r6,hg⟩,r7⟩,q2⟩
   ·rw [if_neg hg]
    have e2:okG (c0 :: r)=false:=by
     simp only [okG,A1q,dgt,List.drop_succ_cons,List.drop_zero,Bool.and_eq_false_iff,decide_eq_false_iff_not]
     by_cases h1:5<=O9 0 r
     ·exact .inr fun h2=>hg ⟨h1,h2⟩
     ·exact .inl h1
    rw [e2,cond_false]
    exact ⟨_,rfl,fun _ _ h=>h,rfl⟩
  ·rw [if_neg h3]
   have e1:okS (c0 :: r)=false:=by rw [eok]; exact dF fun h=>h3 h.2
   unfold B0c
   rw [e1,cond_false]
   exact ⟨_,rfl,fun _ _ h=>h,rfl⟩
 rw [E2y]
 by_cases h:c0.toNat < 97
 ·have e1:=hlc.1 h
  rw [if_neg (by omega)]
  by_cases h1:0<=Lib.indexByte A4q c0
  ·rw [if_pos h1]
   exact fin A4q true (dT h).symm (by rw [if_pos h]) h1
  ·rw [if_neg h1]
   have e1:okS (c0 :: r)=false:=by rw [eok]; exact dF fun hh=>h1 (by rw [if_pos h] at hh; exact hh.1)
   unfold B0c
   rw [e1,cond_false]
   exact ⟨_,rfl,fun _ _ h=>h,rfl⟩
 ·have e1:=hlc.2 h
  by_cases h1:0<=Lib.indexByte X5 c0
  ·rw [if_pos h1]
   exact fin X5 false (dF h).symm (by rw [if_neg h]) h1
  ·rw [if_neg h1,if_neg (by omega)]
   have e1:okS (c0 :: r)=false:=by rw [eok]; exact dF fun hh=>h1 (by rw [if_neg h] at hh; exact hh.1)
   unfold B0c
   rw [e1,cond_false]
   exact ⟨_,rfl,fun _ _ h=>h,rfl⟩
def F6r:List AV->Tr AV
 | [x]=>match sstr? x with
  | some s=>.br (decide (s.length<=9223372036854775807)) (.br (okS s) (.br (okG s) (.leaf (F6w s)) (.leaf (X3 2))) (.leaf (X3 4))) .fail
  | none=>.fail
 | _=>.fail
theorem C0e {f:FuncId} (h1:∀ s,(C9 prog B4v 60).call f [.lstr s 0 1] (Bg 8) G9=some (X3 4)) (h5:∀ s,(C9 prog B4v 60).call f [.lstr s 5 9223372036854775807] (Bg 8) G9=some (X3 4))
  (hm:∀ s:List UInt8,2<=s.length/\s.length<=4->∃ lo hi:Nat,lo<=s.length/\s.length<=hi/\∃ v',(C9 prog B4v 60).call f [.lstr s lo hi] (Bg 8) G9=some v'/\(∀ ι x,VR ι v' x->VR ι (B0c s) x)/\below 0 v'=true)
  (args:List AV) (v:AV) (hg:(F6r args).get=some v) :
  ∃ args' v' B',(∀ (ι:Emb) (xs:List Value),VRL ι args xs->VRL ι args' xs)/\(∀ (ι:Emb) (x:Value),VR ι v' x->VR ι v x)/\H6 0 args'=true/\below 0 v'=true /\
   Ca prog B4v f args' (Bg (gN prog)) (v',B',[]):=by
 unfold F6r at hg
 split at hg
 ·rename_i x
  split at hg
  ·rename_i s hx
   obtain ⟨hlen,hv⟩:=Tr.br_get0 hg
   rw [decide_eq_true_eq] at hlen
   have hv':v=B0c s:=by
    unfold B0c
    cases h1:okS s <;> simp only [h1,Tr.get] at hv
    ·cases hv; rfl
    ·cases h2:okG s <;> simp only [h2] at hv
     ·cases hv; rfl
     ·cases hv; rfl
   subst hv'
   have hw:∀ (lo hi:Nat),lo<=s.length->s.length<=hi->∀ (ι:Emb) (xs:List Value),VRL ι [x] xs->VRL ι [.lstr s lo hi] xs:=fun lo hi h1 h2 ι xs hx'=>by
    simp only [VRL] at hx' ⊢
    obtain ⟨y,ys,rfl,q1,rfl⟩:=hx'
    obtain ⟨b,r1,rfl⟩:=sstr?_VR hx q1
    exact ⟨_,_,rfl,by simp only [VR]; exact ⟨⟨b,r1,rfl⟩,h1,h2⟩,rfl⟩
   by_cases c1:s.length<=1
   ·have e:B0c s=X3 4:=by
     have:okS s=false:=by simp only [okS,dF (by omega:¬ 2<=s.length),Bool.false_and]
     unfold B0c; rw [this]; rfl
    rw [e]
    obtain ⟨B',hca⟩:=Ca.of_finV (h1 s)
    exact ⟨_,_,B',hw 0 1 (by omega) c1,fun _ _ h=>h,rfl,rfl,by rw [gsz]; exact hca⟩
   ·by_cases c2:s.length<=4
    ·obtain ⟨lo,hi,l1,l2,v',r1,r2,r3⟩:=hm s ⟨by omega,c2⟩
     obtain ⟨B',hca⟩:=Ca.of_finV r1
     exact ⟨_,_,B',hw lo hi l1 l2,r2,rfl,r3,by rw [gsz]; exact hca⟩
    ·have e:B0c s=X3 4:=by
      have:okS s=false:=by simp only [okS,dF c2,Bool.and_false,Bool.false_and]
      unfold B0c; rw [this]; rfl
     rw [e]
     obtain ⟨B',hca⟩:=Ca.of_finV (h5 s)
     exact ⟨_,_,B',hw 5 _ (by omega) hlen,fun _ _ h=>h,rfl,rfl,by rw [gsz]; exact hca⟩
  ·cases hg
 ·cases hg
def G6e (prims:Prims):Prims:=(prims.addt 24 F6r).addt 27 F6r
theorem F3r {A:Amb} (hT:Tab A) (hG:gN prog<=A.G) {prims:Prims} (hp:PrimOK prog A prims):PrimOK prog A (G6e prims):=by
 have h2:=F4z hT hG
 refine PrimOK.addt2 D6 D7 h2 (PrimOK.addt2 D6 D7 h2 hp hG func24 (by kernel_rfl) ?_) hG func27 (by kernel_rfl) ?_
 ·exact C0e G0r G2c fun s hs=>by
   obtain ⟨v',h1,h2,h3⟩:=D5m hs
   exact ⟨2,4,hs.1,hs.2,v',(G5u s).trans h1,h2,h3⟩
 ·refine C0e F9v G4l fun s hs=>?_
  match s,hs with
  | [c0,a],_ =>
   obtain ⟨v',h1,h2,h3⟩:=B1e (c0:=c0) (r:=[a]) (two:=true) (is:=[1]) (by simp) rfl (fun L h=>F5x)
   exact ⟨2,2,by simp,by simp,v',(F9a _).trans h1,h2,h3⟩
  | [c0,a,b],_ =>
   obtain ⟨v',h1,h2,h3⟩:=B1e (c0:=c0) (r:=[a,b]) (two:=false) (is:=[1,2]) (by simp) rfl (fun L h=>F3w)
   exact ⟨3,3,by simp,by simp,v',(G4b _).trans h1,h2,h3⟩
  | [c0,a,b,c],_ =>
   obtain ⟨v',h1,h2,h3⟩:=B1e (c0:=c0) (r:=[a,b,c]) (two:=false) (is:=[1,2,3]) (by simp) rfl (fun L h=>F4f)
   exact ⟨4,4,by simp,by simp,v',(G2l _).trans h1,h2,h3⟩
end Go.Proofs.Tryz
namespace Go.Proofs.Tryz
open Go.Ad
def G5c (g:Int):List UInt8:=if g < 10 then [(48+g).toNat.toUInt8] else [49,(38+g).toNat.toUInt8]
def X4 (h:Bool) (l g:Int):List UInt8:=(bif h then A4q else X5).getD l.toNat 0 :: G5c g
def C9q (o:Option AV) (s:List UInt8):Bool:=match o with
 | some (.tuple [.str t,.int .i64 e])=>t == s && decide (e=0)
 | _=>false
theorem F2l {o:Option AV} {s:List UInt8} (h:C9q o s=true):o=some (.tuple [.str s,.int .i64 0]):=by
 unfold C9q at h
 split at h
 ·simp only [Bool.and_eq_true,beq_iff_eq,decide_eq_true_eq] at h
  obtain ⟨rfl,rfl⟩:=h; rfl
 ·cases h
theorem G5r:([false,true].all fun h=>(List.range 10).all fun l=>(List.range 8).all fun g=>C9q ((C9 prog (prs known) 60).call 19 [.agg [.bool h,.int .i64 (l:Int),.int .i64 ((5+g:Nat):Int)]] (Bg 8) G9) (X4 h l (5+g:Nat)))=true:=by kernel_rfl
theorem G8z:([false,true].all fun h=>(List.range 10).all fun l=>(List.range 8).all fun g=>C9q ((C9 prog (prs known) 60).call 52 [.agg [.bool h,.int .i64 (l:Int),.int .i64 ((5+g:Nat):Int)]] (Bg 8) G9) (X4 h l (5+g:Nat)))=true:=by kernel_rfl
def inC (l g:Int):Bool:=decide (0<=l/\l<=9) && decide (5<=g/\g<=12)
def F4d:List AV->Tr AV
 | [.agg [a,b,c]]=>match sbool? a,H8 b,H8 c with
  | some h,some (.i64,l),some (.i64,g)=>.br (inC l g) (.leaf (.tuple [.sstr (X4 h l g),.int .i64 0])) .fail
  | _,_,_=>.fail
 | _=>.fail
theorem C0h {f:FuncId} (ht:([false,true].all fun h=>(List.range 10).all fun l=>(List.range 8).all fun g=>C9q ((C9 prog (prs known) 60).call f [.agg [.bool h,.int .i64 (l:Int),.int .i64 ((5+g:Nat):Int)]] (Bg 8) G9) (X4 h l (5+g:Nat)))=true)
  (args:List AV) (v:AV) (hg:(F4d args).get=some v) :
  ∃ args' v' B',(∀ (ι:Emb) (xs:List Value),VRL ι args xs->VRL ι args' xs)/\(∀ (ι:Emb) (x:Value),VR ι v' x->VR ι v x)/\H6 0 args'=true/\below 0 v'=true /\
   Ca prog (prs known) f args' (Bg (gN prog)) (v',B',[]):=by
 unfold F4d at hg
 split at hg
 ·rename_i a b c
  split at hg
  ·rename_i h l g h1 h2 h3
   obtain ⟨hc,hv⟩:=Tr.br_get0 hg
   simp only [inC,Bool.and_eq_true,decide_eq_true_eq] at hc
   cases hv
   obtain ⟨k,rfl,hk⟩:∃ k:Nat,g=((5+k:Nat):Int)/\k < 8:=⟨(g - 5).toNat,by omega,by omega⟩
   obtain ⟨m,rfl,hm⟩:∃ m:Nat,l=(m:Int)/\m < 10:=⟨l.toNat,by omega,by omega⟩
   have hr:=F2l (List.all_eq_true.1 (List.all_eq_true.1 (List.all_eq_true.1 ht h (by cases h <;> simp)) m (List.mem_range.2 hm)) k (List.mem_range.2 hk))
   obtain ⟨B',hca⟩:=Ca.of_finV hr
   refine ⟨_,_,B',fun ι xs hx=>?_,fun ι x hx=>?_,rfl,rfl,by rw [gsz]; exact hca⟩
   ·simp only [VRL,VR] at hx ⊢
    obtain ⟨x,l0,q1,⟨ys,q2,y1,l1,q3,q4,y2,l2,q5,q6,y3,l3,q7,q8,q9⟩,q10⟩:=hx
    exact ⟨x,l0,q1,⟨ys,q2,y1,l1,q3,Y1 h1 q4,y2,l2,q5,F7 h2 q6,y3,l3,q7,F7 h3 q8,q9⟩,q10⟩
   ·simp only [VR,VRL] at hx ⊢
    exact hx
  ·cases hg
 ·cases hg
def pRd:Prims:=((G6e B6m).addt 19 F4d).addt 52 F4d
theorem G4g {A:Amb} (hT:Tab A) (hG:gN prog<=A.G):PrimOK prog A pRd:=by
 have h0:=E7f (C9u hT hG)
 exact PrimOK.addt2 D6 D7 h0 (PrimOK.addt2 D6 D7 h0 (F3r hT hG (C4y hT hG)) hG func19 (by kernel_rfl) (C0h G5r)) hG func52 (by kernel_rfl) (C0h G8z)
end Go.Proofs.Tryz
namespace Go.Proofs.Tryz
open Go.Ad
theorem B7i {β:Type} {b:Bool} {t f:Option β}:brK b t f=if b=true then t else f:=by cases b <;> rfl
def G9d (c:Int):Int:=Lib.indexByte [44,59,58,40,41,91,93,61,43,45,42,47,60,62,124,35] (byteOf c)
def C6m (c:Int):Option AV:=brK (decide (c >= 48)) (some (.sbool (decide (c<=57)))) (some (.bool false))
theorem C9c (c:Int):(C9 prog lib 60).call 189 [.rng .u8 c 0 255] (Bg 8) G9=C6m c:=by kernel_rfl
def F3f (c:Int):Int:=if (97<=c/\c<=122) \/ (65<=c/\c<=90) then 1 else if 48<=c/\c<=57 then 2 else if c=95 then 3 else if c=32 then 5 else if 0<=G9d c then 4 else 0
def C7s (c:Int):Bool:=decide (48<=c/\c<=57)
theorem Q4 {ι:Emb} {k:IntKind} {n m:Int} (e:n=m) (x:Value) (h:VR ι (.int k n) x):VR ι (.sint k m) x:=by subst e; simpa only [VR] using h
theorem A0i {ι:Emb} {n m:Bool} (e:n=m) (x:Value) (h:VR ι (.bool n) x):VR ι (.sbool m) x:=by subst e; simpa only [VR] using h
theorem E5n {ι:Emb} {n m:Bool} (e:n=m) (x:Value) (h:VR ι (.sbool n) x):VR ι (.sbool m) x:=by subst e; exact h
theorem E1n (c:Int):(C6m c=some (.bool (C7s c))) \/ (C6m c=some (.sbool (C7s c))):=by
 unfold C6m C7s
 simp only [B7i,decide_eq_true_eq]
 repeat' split
 all_goals first
  | (left; congr 2; symm; rw [decide_eq_false_iff_not]; omega)
  | (right; congr 2; rw [decide_eq_decide]; omega)
def pB:Prims:=lib.addt 189 (gP [.rng .u8 0 255] fun | [.i c]=>.leaf (.sbool (C7s c)) | _=>.fail)
theorem D7y {A:Amb} (hT:Tab A) (hG:gN prog<=A.G):PrimOK prog A pB:=by
 have h0:=D5u hT
 refine PrimOK.addP D6 D7 h0 h0 hG func189 (by kernel_rfl) fun ls v h=>?_
 split at h
 ·rename_i c
  cases h
  rcases E1n c with e | e
  ·exact ⟨rfl,60,_,by rw [gsz]; exact (C9c c).trans e,rfl,fun ι x=>A0i rfl x⟩
  ·exact ⟨rfl,60,_,by rw [gsz]; exact (C9c c).trans e,rfl,fun ι x h=>h⟩
 ·cases h
def dr (n:Nat):List Pt:=List.replicate n .drop
def dd8:List OP:=List.replicate 8 .dead
abbrev W (n:Int):Int:=IntKind.i64.wrap n
def F4 (s:List UInt8):Bool:=decide (s.length < 2 ^ 62)
def E5i:Code:=f157.body.getD .skip
def C5w:Code:=J3 (K6 0 E5i)
abbrev bI (s:List UInt8) (i:Int):Int:=((s.getD i.toNat 0).toNat:Int)
def spD:SP:=⟨[.str,.int .i64,.drop,.drop,.drop,.int .i64]++dr 17,dd8⟩
theorem F4p (s:List UInt8) (a i:Int):F3 prog (C9 prog pB 60) F8 C5w (spD.rho [.s s,.i a,.i i]) (spD.heap [.s s,.i a,.i i]) (H5 (fun _=>spD) 8 []) =
  brK (decide (W (a+i) < (s.length:Int))) (brK (decide (0<=W (a+i)/\W (a+i) < (s.length:Int))) (brK (C7s (bI s (W (a+i)))) (some (.normal,[.s s,.i a,.i (W (i+1))]))
   (some (.exit 0,[.s s,.i a,.i i]))) none) (some (.exit 0,[.s s,.i a,.i i])):=by kernel_rfl
def pDg (s:List UInt8) (a n:Nat):Bool:=C7s (bAt s (a+n))
def B6x (s:List UInt8) (a:Nat):Nat:=N8 (pDg s a) (s.length - a) 0
theorem E6d (s:List UInt8) (a n:Nat) (hs:s.length < 2 ^ 62) (ha:a<=s.length) (hn:n<=s.length - a):F3 prog (C9 prog pB 60) F8 C5w (spD.rho [.s s,.i a,.i n]) (spD.heap [.s s,.i a,.i n]) (H5 (fun _=>spD) 8 []) =
  if n < s.length - a/\pDg s a n=true then some (.normal,[.s s,.i a,.i ((n+1:Nat):Int)]) else some (.exit 0,[.s s,.i a,.i n]):=by
 rw [F4p]
 have e1:W ((n:Int)+1)=((n+1:Nat):Int):=by rw [W,wrap64 (by omega) (by omega)]; omega
 have e0:W ((a:Int)+n)=((a+n:Nat):Int):=by rw [W,wrap64 (by omega) (by omega)]; omega
 rw [e1,e0]
 have e2:bI s ((a+n:Nat):Int)=bAt s (a+n):=by simp only [bI,bAt,Int.toNat_natCast]
 rw [e2]
 unfold pDg
 by_cases h:n < s.length - a
 ·have h1:decide (((a+n:Nat):Int) < (s.length:Int))=true:=dT (by omega)
  have h2:decide (0<=((a+n:Nat):Int)/\((a+n:Nat):Int) < (s.length:Int))=true:=dT (by omega)
  rw [h1,h2]
  cases C7s (bAt s (a+n)) <;> simp [brK,h]
 ·have h1:decide (((a+n:Nat):Int) < (s.length:Int))=false:=dF (by omega)
  rw [h1]
  simp [brK,h]
def F8v:Blk:=hookP spD 8 [] fun
 | [.s s,.i a,.i i]=>.br (decide (i=0/\0<=a/\a<=(s.length:Int)) && F4 s) (.leaf (.normal,spD,[.s s,.i a,.i (B6x s a.toNat)])) .fail
 | _=>.fail
def G4u:Prims:=pB.addb 157 0 F8v
def pCl (cs:List Int) (s:List UInt8) (n:Nat):Bool:=cs.any fun k=>F3f (bAt s n) == k
def L6 (cs:List Int) (s:List UInt8):Nat:=N8 (pCl cs s) s.length 0
section
variable {A:Amb} (hT:Tab A) (hG:gN prog<=A.G)
include hT hG
theorem F4h:PrimOK prog A G4u:=by
 refine PrimOK.addbP (D7y hT hG) func157 (show f157.body=some E5i by kernel_rfl) (body:=.loop C5w) (by kernel_rfl) (by kernel_rfl) fun ls e sq l h=>?_
 split at h
 ·rename_i s a i
  obtain ⟨hc,hv⟩:=Tr.br1 h
  cases hv
  simp only [Bool.and_eq_true,decide_eq_true_eq,F4] at hc
  obtain ⟨⟨rfl,ha0,ha1⟩,hs⟩:=hc
  obtain ⟨a,rfl⟩:∃ k:Nat,a=(k:Int):=⟨a.toNat,by omega⟩
  refine ⟨by simp [frP,spD,SP.heap,mkH,dd8,dr,mkT,OP.mk,List.replicate],fun Bb hB=>SEB.block_exit (id:=0) ?_⟩
  rw [Int.toNat_natCast]
  have key:=SEB.scan (A:=A) (B0:=Bb) (c:=C5w) (S:=fun n=>⟨spD.rho [.s s,.i a,.i n],spD.heap [.s s,.i a,.i n],[]⟩) (E:=fun n=>⟨spD.rho [.s s,.i a,.i n],spD.heap [.s s,.i a,.i n],[]⟩) (e:=fun _=>.exit 0) (p:=pDg s a) (N:=s.length - a)
   (fun _=>by simp) (fun n hn hp=>SEB.of_KP (e:=.normal) D6 D7 (D7y hT hG) (.none _) hB (by rw [E6d s a n hs (by omega) (by omega),if_pos ⟨hn,hp⟩]) rfl)
   (fun n hn hp=>SEB.of_KP (e:=.exit 0) D6 D7 (D7y hT hG) (.none _) hB (by rw [E6d s a n hs (by omega) hn,if_neg (fun h=>by rw [hp h.1] at h; exact absurd h.2 (by simp))]) rfl) 0 (Nat.zero_le _)
  exact key
 ·cases h
end
theorem H1l (c:Int):(F3f c == 2)=C7s c:=by
 unfold F3f C7s
 repeat' split
 all_goals first
  | (rw [show ((2:Int) == 2)=true from rfl]; symm; rw [decide_eq_true_eq]; assumption)
  | (rw [show (_ == (2:Int))=false from rfl]; symm; rw [decide_eq_false_iff_not]; omega)
def A6d (s:List UInt8):Nat × Nat :=
 bif decide (0 < L6 [2] s) && (decide (L6 [2] s+1 < s.length) && (bAt s (L6 [2] s) == 46 && decide (0 < L6 [2] (s.drop (L6 [2] s+1))))) then (L6 [2] s+1+L6 [2] (s.drop (L6 [2] s+1)),L6 [2] s) else (L6 [2] s,L6 [2] s)
theorem B2r (cs:List Int) (s:List UInt8):L6 cs s<=s.length:=by
 have:=(B7u (pCl cs s) s.length 0).2; simpa [L6] using this
theorem E5u (s:List UInt8) (a n:Nat):bAt (s.drop a) n=bAt s (a+n):=by
 unfold bAt
 simp [List.getD_eq_getElem?_getD,List.getElem?_drop]
theorem D0k (s:List UInt8) (a:Nat):B6x s a=L6 [2] (s.drop a):=by
 unfold B6x L6
 rw [List.length_drop]
 refine B5t fun m _ _=>?_
 simp [pDg,pCl,H1l,E5u]
theorem G7i (s:List UInt8) (a:Nat) (ha:a<=s.length) (hs:F4 s=true):(C9 prog G4u 60).call 157 [.sstr s,.sint .i64 a] (Bg 8) G9=some (.sint .i64 (L6 [2] (s.drop a))):=by
 have h:(C9 prog G4u 60).call 157 [.sstr s,.sint .i64 a] (Bg 8) G9=brK (decide ((0:Int)=0/\0<=(a:Int)/\(a:Int)<=s.length) && F4 s) (some (.sint .i64 (B6x s (a:Int).toNat))) none:=by kernel_rfl
 rw [h,hs,dT (show (0:Int)=0/\0<=(a:Int)/\(a:Int)<=s.length by omega),Int.toNat_natCast,D0k]; rfl
def pN4:Prims:=pB.addt 157 (gP [.str,.int .i64] fun | [.s s,.i a]=>.br (decide (0<=a/\a<=(s.length:Int)) && F4 s) (.leaf (.sint .i64 (L6 [2] (s.drop a.toNat)))) .fail | _=>.fail)
theorem E5v {A:Amb} (hT:Tab A) (hG:gN prog<=A.G):PrimOK prog A pN4:=by
 refine PrimOK.addP D6 D7 (F4h hT hG) (D7y hT hG) hG func157 (by kernel_rfl) fun ls v h=>?_
 split at h
 ·rename_i s a
  obtain ⟨hs,hv⟩:=Tr.br1 h
  cases hv
  simp only [Bool.and_eq_true,decide_eq_true_eq] at hs
  obtain ⟨⟨ha0,ha1⟩,hs⟩:=hs
  obtain ⟨a,rfl⟩:∃ k:Nat,a=(k:Int):=⟨a.toNat,by omega⟩
  exact ⟨rfl,60,_,by rw [gsz]; exact G7i s a (by omega) hs,rfl,fun ι x h=>by rw [Int.toNat_natCast]; exact h⟩
 ·cases h
theorem A3i {ι:Emb} {a b c a' b' c':AV} (h1:∀ v,VR ι a v->VR ι a' v) (h2:∀ v,VR ι b v->VR ι b' v) (h3:∀ v,VR ι c v->VR ι c' v) (x:Value) (h:VR ι (.tuple [a,b,c]) x):VR ι (.tuple [a',b',c']) x:=by
 simp only [VR,VRL] at h ⊢
 obtain ⟨xs,rfl,x1,r1,e1,q1,x2,r2,e2,q2,x3,r3,e3,q3,q4⟩:=h
 exact ⟨xs,rfl,x1,r1,e1,h1 _ q1,x2,r2,e2,h2 _ q2,x3,r3,e3,h3 _ q3,q4⟩
theorem G7k (s:List UInt8) (hs:F4 s=true):(C9 prog pN4 60).call 156 [.sstr s] (Bg 8) G9=some (.sint .i64 (A6d s).1):=by
 have h:(C9 prog pN4 60).call 156 [.sstr s] (Bg 8) G9=brK (decide ((0:Int)<=0/\(0:Int)<=(s.length:Int)) && F4 s) (brK (decide ((L6 [2] (s.drop 0):Int) > 0))
  (brK (decide ((L6 [2] (s.drop 0):Int) < (s.length:Int))) (brK (decide (0<=(L6 [2] (s.drop 0):Int)/\(L6 [2] (s.drop 0):Int) < (s.length:Int))) (brK (bI s (L6 [2] (s.drop 0)) == 46)
   (brK (decide (0<=W ((L6 [2] (s.drop 0):Int)+1)/\W ((L6 [2] (s.drop 0):Int)+1)<=(s.length:Int)) && F4 s)
    (brK (decide ((L6 [2] (s.drop (W ((L6 [2] (s.drop 0):Int)+1)).toNat):Int) > 0))
     (brK (decide (0<=W ((L6 [2] (s.drop 0):Int)+1)/\W ((L6 [2] (s.drop 0):Int)+1)<=(s.length:Int)) && F4 s)
      (some (.sint .i64 (W (W ((L6 [2] (s.drop 0):Int)+1)+(L6 [2] (s.drop (W ((L6 [2] (s.drop 0):Int)+1)).toNat):Int))))) none)
     (some (.sint .i64 (L6 [2] (s.drop 0))))) none)
   (some (.sint .i64 (L6 [2] (s.drop 0))))) none)
   (some (.sint .i64 (L6 [2] (s.drop 0)))))
  (some (.sint .i64 (L6 [2] (s.drop 0))))) none:=by kernel_rfl
 rw [h,hs,List.drop_zero,dT (show (0:Int)<=0/\(0:Int)<=(s.length:Int) by omega),Bool.and_self,brT]
 have hs':=of_decide_eq_true hs
 have hl:=B2r [2] s
 have hw:W ((L6 [2] s:Int)+1)=((L6 [2] s+1:Nat):Int):=by rw [W,wrap64 (by omega) (by omega)]; omega
 rw [hw,Int.toNat_natCast]
 unfold A6d
 generalize hd:L6 [2] s=d at hl ⊢
 have hb:bI s (d:Int)=bAt s d:=by simp [bI,bAt]
 rw [hb]
 by_cases h0:0 < d
 case neg=>rw [dF (show ¬ ((d:Int) > 0) by omega),dF h0]; rfl
 rw [dT (show (d:Int) > 0 by omega),brT,dT h0,Bool.true_and]
 by_cases h1:d < s.length
 case neg=>rw [dF (show ¬ ((d:Int) < (s.length:Int)) by omega),dF (show ¬ d+1 < s.length by omega)]; rfl
 rw [dT (show (d:Int) < (s.length:Int) by omega),brT,dT (show 0<=(d:Int)/\(d:Int) < (s.length:Int) by omega),brT]
 rw [dT (show 0<=((d+1:Nat):Int)/\((d+1:Nat):Int)<=(s.length:Int) by omega),Bool.and_self]
 cases hc:bAt s d == 46 with
 | false=>simp only [brF,Bool.false_and,Bool.and_false,cond_false]
 | true =>
  simp only [brT,Bool.true_and]
  have hl2:=B2r [2] (s.drop (d+1))
  rw [List.length_drop] at hl2
  generalize L6 [2] (s.drop (d+1))=m at hl2 ⊢
  by_cases hm:0 < m
  ·have e6:W (((d+1:Nat):Int)+(m:Int))=((d+1+m:Nat):Int):=by rw [W,wrap64 (by omega) (by omega)]; omega
   rw [dT (show (m:Int) > 0 by omega),brT,dT hm,dT (show d+1 < s.length by omega),e6]; rfl
  ·rw [dF (show ¬ ((m:Int) > 0) by omega),dF hm,brF]; simp
def pN5:Prims:=pN4.addt 156 (gP [.str] fun | [.s s]=>.br (F4 s) (.leaf (.sint .i64 (A6d s).1)) .fail | _=>.fail)
def A3j (s:List UInt8):Int:=if (A6d s).1=0 \/ (A6d s).1 ≠ s.length \/ ((A6d s).2 > 1/\bAt s 0=48) then 3 else if s.length > 24 then 17 else 0
theorem F5z (s:List UInt8):(A6d s).2<=(A6d s).1/\(A6d s).1<=s.length/\((A6d s).1=0 ↔ (A6d s).2=0)/\(A6d s).2=L6 [2] s:=by
 have hl:=B2r [2] s
 have hl2:=B2r [2] (s.drop (L6 [2] s+1))
 rw [List.length_drop] at hl2
 unfold A6d
 generalize L6 [2] (s.drop (L6 [2] s+1))=m at *
 generalize L6 [2] s=d at *
 cases h:(decide (0 < d) && (decide (d+1 < s.length) && (bAt s d == 46 && decide (0 < m)))) with
 | true =>
  simp only [Bool.and_eq_true,decide_eq_true_eq] at h
  simp only [cond_true]
  refine ⟨?_,?_,?_,?_⟩ <;> first | omega | trivial
 | false=>simp only [cond_false]; exact ⟨Nat.le_refl _,hl,trivial,trivial⟩
theorem G7c (s:List UInt8) (hs:F4 s=true):(C9 prog pN5 60).call 103 [.sstr s] (Bg 8) G9=some (.int .i64 (A3j s)):=by
 have h:(C9 prog pN5 60).call 103 [.sstr s] (Bg 8) G9=brK (s == []) (some (.int .i64 3)) (brK (F4 s) (brK (((A6d s).1:Int) != (s.length:Int)) (some (.int .i64 3))
   (brK (decide ((0:Int)<=0/\(0:Int)<=(s.length:Int)) && F4 s) (brK (decide ((L6 [2] (s.drop 0):Int) > 1)) (brK (decide ((0:Int)<=0/\(0:Int) < (s.length:Int))) (brK (bAt s 0 == 48) (some (.int .i64 3)) (brK (decide ((s.length:Int) > 24)) (some (.int .i64 17)) (some (.int .i64 0)))) none)
    (brK (decide ((s.length:Int) > 24)) (some (.int .i64 17)) (some (.int .i64 0)))) none)) none):=by kernel_rfl
 rw [h,hs,brT,List.drop_zero]
 obtain ⟨h1,h2,h3,h4⟩:=F5z s
 rw [<- h4]
 unfold A3j
 cases s with
 | nil=>rfl
 | cons b r =>
  have e1:((b :: r) == ([]:List UInt8))=false:=rfl
  rw [e1,brF]
  have hp:0 < (b :: r).length:=by simp
  generalize (b :: r).length=k at *
  simp only [B7i,beq_iff_eq,bne_iff_ne,ne_eq,decide_eq_true_eq,Bool.and_true]
  repeat' split
  all_goals first | rfl | omega
def E1l (g:List UInt8->Int):List Lf->Tr AV
 | [.s s]=>.br (F4 s) (.leaf (.sint .i64 (g s))) .fail
 | _=>.fail
def pE:Prims:=pN5.addt 103 (gP [.str] (E1l A3j))
section
variable {A:Amb} (hT:Tab A) (hG:gN prog<=A.G)
include hT hG
theorem E5h:PrimOK prog A pN5:=by
 refine PrimOK.addP D6 D7 (E5v hT hG) (E5v hT hG) hG func156 (by kernel_rfl) fun ls v h=>?_
 split at h
 ·rename_i s
  obtain ⟨hs,hv⟩:=Tr.br1 h
  cases hv
  exact ⟨rfl,60,_,by rw [gsz]; exact G7k s hs,rfl,fun ι x h=>h⟩
 ·cases h
theorem G7r:PrimOK prog A pE:=by
 refine PrimOK.addP D6 D7 (E5h hT hG) (E5h hT hG) hG func103 (by kernel_rfl) fun ls v h=>?_
 unfold E1l at h
 split at h
 ·rename_i s
  obtain ⟨hs,hv⟩:=Tr.br1 h
  cases hv
  exact ⟨rfl,60,_,by rw [gsz]; exact G7c s hs,rfl,fun ι x=>Q4 rfl x⟩
 ·cases h
end
end Go.Proofs.Tryz
namespace Go.Proofs.Tryz
open Go.Ad
structure Ft where
 n:Int
 h:Bool
 m:Int
 g:Int
 h':Bool
 m':Int
 g':Int
def Ft.av (x:Ft):List AV:=[.sint .i64 x.n,.sbool x.h,.sint .i64 x.m,.sint .i64 x.g,.sbool x.h',.sint .i64 x.m',.sint .i64 x.g']
def C8b (k:Nat):List AV:=[.int .i64 0,.bool false,.int .i64 0,.int .i64 0,.bool false,.int .i64 0,.int .i64 0]++List.replicate k (.int .i64 0)
def D9f {α:Type} (x:Ft) (hi:Int->Int->Bool) (E:Int->Option α) (V:Option α):Option α :=
 brK (decide (x.n < 1)) (E 2) (brK (decide (x.n > 100000)) (E 2) (brK (decide (x.m < 0)) (E 1) (brK (hi x.m 10) (E 1) (brK (decide (x.g < 5)) (E 2) (brK (decide (x.g > 12)) (E 2)
  (brK (decide (x.m' < 0)) (E 1) (brK (hi x.m' 10) (E 1) (brK (decide (x.g' < 5)) (E 2) (brK (decide (x.g' > 12)) (E 2) (brK (!x.h) (E 3) (brK x.h' (E 3)
   (brK (inV x.n x.m x.g) (brK (okL x.n x.h x.m x.g) (brK (inV x.n x.m' x.g') (brK (okL x.n x.h' x.m' x.g') V (E 2)) none) (E 2)) none))))))))))))
def I6 (x:Ft):Int :=
 if x.n < 1 \/ x.n > 100000 then 2 else if x.m < 0 \/ x.m > 9 then 1 else if x.g < 5 \/ x.g > 12 then 2 else if x.m' < 0 \/ x.m' > 9 then 1 else if x.g' < 5 \/ x.g' > 12 then 2
 else if x.h=false \/ x.h'=true then 3 else if okL x.n x.h x.m x.g=false \/ okL x.n x.h' x.m' x.g'=false then 2 else 0
theorem C9o {α:Type} (x:Ft) {hi:Int->Int->Bool} (hhi:∀ m,hi m 10=decide (m > 9)) (E:Int->Option α) (V:Option α):D9f x hi E V=if I6 x=0 then V else E (I6 x):=by
 unfold D9f
 rw [hhi,hhi]
 by_cases c0:x.n < 1
 ·have e:I6 x=2:=by
   unfold I6
   repeat' split
   all_goals first | rfl | omega
  rw [dT c0,e]; rfl
 rw [dF c0]
 by_cases c1:x.n > 100000
 ·have e:I6 x=2:=by
   unfold I6
   repeat' split
   all_goals first | rfl | omega
  rw [dT c1,e]; rfl
 rw [dF c1]
 by_cases c2:x.m < 0
 ·have e:I6 x=1:=by
   unfold I6
   repeat' split
   all_goals first | rfl | omega
  rw [dT c2,e]; rfl
 rw [dF c2]
 by_cases c3:x.m > 9
 ·have e:I6 x=1:=by
   unfold I6
   repeat' split
   all_goals first | rfl | omega
  rw [dT c3,e]; rfl
 rw [dF c3]
 by_cases c4:x.g < 5
 ·have e:I6 x=2:=by
   unfold I6
   repeat' split
   all_goals first | rfl | omega
  rw [dT c4,e]; rfl
 rw [dF c4]
 by_cases c5:x.g > 12
 ·have e:I6 x=2:=by
   unfold I6
   repeat' split
   all_goals first | rfl | omega
  rw [dT c5,e]; rfl
 rw [dF c5]
 by_cases c6:x.m' < 0
 ·have e:I6 x=1:=by
   unfold I6
   repeat' split
   all_goals first | rfl | omega
  rw [dT c6,e]; rfl
 rw [dF c6]
 by_cases c7:x.m' > 9
 ·have e:I6 x=1:=by
   unfold I6
   repeat' split
   all_goals first | rfl | omega
  rw [dT c7,e]; rfl
 rw [dF c7]
 by_cases c8:x.g' < 5
 ·have e:I6 x=2:=by
   unfold I6
   repeat' split
   all_goals first | rfl | omega
  rw [dT c8,e]; rfl
 rw [dF c8]
 by_cases c9:x.g' > 12
 ·have e:I6 x=2:=by
   unfold I6
   repeat' split
   all_goals first | rfl | omega
  rw [dT c9,e]; rfl
 rw [dF c9]
 have i1:inV x.n x.m x.g=true:=dT (by omega)
 have i2:inV x.n x.m' x.g'=true:=dT (by omega)
 rw [i1,i2]
 unfold I6
 rw [if_neg (show ¬ (x.n < 1 \/ x.n > 100000) by omega),if_neg (show ¬ (x.m < 0 \/ x.m > 9) by omega),if_neg (show ¬ (x.g < 5 \/ x.g > 12) by omega),if_neg (show ¬ (x.m' < 0 \/ x.m' > 9) by omega),if_neg (show ¬ (x.g' < 5 \/ x.g' > 12) by omega)]
 cases x.h with
 | false=>rfl
 | true =>
  cases x.h' with
  | true=>rfl
  | false =>
   cases okL x.n true x.m x.g with
   | false=>rfl
   | true=>cases okL x.n false x.m' x.g' <;> rfl
def okV (x:Ft):AV:=.tuple [.agg (x.av++[.rng .i64 (x.n+(U5 (O3 x.n) x.h x.m x.g).1) 1 100000,.rng .i64 (x.n+(U5 (O3 x.n) x.h x.m x.g).2) 1 100000,.rng .i64 (x.n+(U5 (O3 x.n) x.h' x.m' x.g').1) 1 100000,.rng .i64 (x.n+(U5 (O3 x.n) x.h' x.m' x.g').2) 1 100000]),.int .i64 0]
def G8u (e:Int):AV:=.tuple [.agg (C8b 4),.int .i64 e]
theorem G1u (x:Ft):(C9 prog B6m 60).call 16 [.agg x.av] (Bg 8) G9=D9f x (fun a b=>decide (a >= b)) (fun e=>some (G8u e)) (some (okV x)):=by kernel_rfl
theorem G4p (x:Ft):(C9 prog B6m 60).call 20 [.agg x.av] (Bg 8) G9=D9f x (fun a _=>decide (a > 9)) (fun e=>some (.int .i64 e)) (some (.int .i64 0)):=by kernel_rfl
def F1u:List AV->Option Ft
 | [a,b,c,d,e,f,g]=>match H8 a,sbool? b,H8 c,H8 d,sbool? e,H8 f,H8 g with
  | some (.i64,n),some h,some (.i64,m),some (.i64,g),some h',some (.i64,m'),some (.i64,g')=>some ⟨n,h,m,g,h',m',g'⟩
  | _,_,_,_,_,_,_=>none
 | _=>none
theorem C5q {ι:Emb} {l:List AV} {x:Ft} (h:F1u l=some x) {vs:List Value} (hv:VRL ι l vs):VRL ι x.av vs:=by
 unfold F1u at h
 split at h
 ·rename_i a b c d e f g
  split at h
  ·rename_i n h0 m g0 h' m' g' q1 q2 q3 q4 q5 q6 q7
   cases h
   simp only [Ft.av,VRL] at hv ⊢
   obtain ⟨y1,l1,e1,r1,y2,l2,e2,r2,y3,l3,e3,r3,y4,l4,e4,r4,y5,l5,e5,r5,y6,l6,e6,r6,y7,l7,e7,r7,r8⟩:=hv
   exact ⟨y1,l1,e1,by simp only [VR]; exact F7 q1 r1,y2,l2,e2,by simp only [VR]; exact Y1 q2 r2,y3,l3,e3,by simp only [VR]; exact F7 q3 r3,y4,l4,e4,by simp only [VR]; exact F7 q4 r4,
    y5,l5,e5,by simp only [VR]; exact Y1 q5 r5,y6,l6,e6,by simp only [VR]; exact F7 q6 r6,y7,l7,e7,by simp only [VR]; exact F7 q7 r7,r8⟩
  ·cases h
 ·cases h
def G6d:List AV->Tr AV
 | [.agg l]=>match F1u l with
  | some x=>.br (decide (I6 x=0)) (.leaf (okV x)) (.leaf (.tuple [.agg (C8b 4),.sint .i64 (I6 x)]))
  | none=>.fail
 | _=>.fail
def F7s:List AV->Tr AV
 | [.agg l]=>match F1u l with
  | some x=>.leaf (.sint .i64 (I6 x))
  | none=>.fail
 | _=>.fail
def pC1:Prims:=(pRd.addt 16 G6d).addt 20 F7s
theorem F9d {A:Amb} (hT:Tab A) (hG:gN prog<=A.G):PrimOK prog A pC1:=by
 have h0:=C4y hT hG
 refine PrimOK.addt3 D6 D7 (PrimOK.addt3 D6 D7 (G4g hT hG) hG func16 (by kernel_rfl) fun args v hv=>?_) hG func20 (by kernel_rfl) fun args v hv=>?_
 ·unfold G6d at hv
  split at hv
  ·rename_i l
   split at hv
   ·rename_i x hx
    have hr:=G1u x
    rw [C9o x (fun m=>by rw [decide_eq_decide]; omega)] at hr
    have hargs:∀ (ι:Emb) (xs:List Value),VRL ι [.agg l] xs->VRL ι [.agg x.av] xs:=fun ι xs hx2=>by
     simp only [VRL,VR] at hx2 ⊢
     obtain ⟨y,r,e1,⟨ys,e2,h2⟩,h3⟩:=hx2
     exact ⟨y,r,e1,⟨ys,e2,C5q hx h2⟩,h3⟩
    by_cases he:I6 x=0
    ·rw [if_pos he,<- gsz] at hr
     obtain ⟨B',hca⟩:=Ca.of_finV hr
     rw [dT he] at hv; cases hv
     exact ⟨B6m,_,_,B',h0,hargs,fun ι y hy=>hy,rfl,rfl,hca⟩
    ·rw [if_neg he,<- gsz] at hr
     obtain ⟨B',hca⟩:=Ca.of_finV hr
     rw [dF he] at hv; cases hv
     refine ⟨B6m,_,_,B',h0,hargs,fun ι y hy=>?_,rfl,rfl,hca⟩
     simp only [G8u,VR,VRL] at hy ⊢
     exact hy
   ·cases hv
  ·cases hv
 ·unfold F7s at hv
  split at hv
  ·rename_i l
   split at hv
   ·rename_i x hx
    cases hv
    have hr:=G4p x
    rw [C9o x (fun m=>rfl)] at hr
    have hargs:∀ (ι:Emb) (xs:List Value),VRL ι [.agg l] xs->VRL ι [.agg x.av] xs:=fun ι xs hx2=>by
     simp only [VRL,VR] at hx2 ⊢
     obtain ⟨y,r,e1,⟨ys,e2,h2⟩,h3⟩:=hx2
     exact ⟨y,r,e1,⟨ys,e2,C5q hx h2⟩,h3⟩
    by_cases he:I6 x=0
    ·rw [if_pos he,<- gsz] at hr
     obtain ⟨B',hca⟩:=Ca.of_finV hr
     exact ⟨B6m,_,_,B',h0,hargs,fun ι y hy=>Q4 he.symm y hy,rfl,rfl,hca⟩
    ·rw [if_neg he,<- gsz] at hr
     obtain ⟨B',hca⟩:=Ca.of_finV hr
     exact ⟨B6m,_,_,B',h0,hargs,fun ι y hy=>Q4 rfl y hy,rfl,rfl,hca⟩
   ·cases hv
  ·cases hv
end Go.Proofs.Tryz
