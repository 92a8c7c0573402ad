/- Plain laws: a number with a point, in digits. -/
import Derived.Test.YteobbbhfocbgkaaGreatDoorN1
namespace Go.Proofs.Tryz
open Go.Ad
open Go.Lib (decDigits itoa nDigits decFrom digitVal)
def trimR (a:List UInt8):List UInt8:=(a.reverse.dropWhile (· == 48)).reverse
theorem trimR_snoc (l:List UInt8) (c:UInt8):trimR (l++[c])=if c=48 then trimR l else l++[c]:=by
 unfold trimR
 rw [List.reverse_append]
 show (List.dropWhile _ (c :: l.reverse)).reverse=_
 by_cases h:c=48
 ·subst h; rfl
 ·rw [if_neg h]
  show (match (c == 48) with | true=>_ | false=>_:List UInt8).reverse=_
  rw [show (c == 48)=false by simpa using h]
  simp
def pdT (k n:Nat):List UInt8:=if (itoa (n:Int)).length≤k then List.replicate (k+1 - (itoa (n:Int)).length) 48++itoa (n:Int) else itoa (n:Int)
theorem pdT_eq (k n:Nat):pdT k n=itoa ((n / 10 ^ k:Nat):Int)++pad k n:=by
 unfold pdT
 rw [itoaN,itoaN]
 have hne:(decDigits n).length ≠ 0:=fun e=>dec_ne n (List.eq_nil_of_length_eq_zero e)
 by_cases h:n < 10 ^ k
 ·rcases Nat.eq_zero_or_pos k with rfl | hk
  ·rw [if_neg (by omega),Nat.pow_zero,Nat.div_one]
   show decDigits n=decDigits n++[]
   rw [List.append_nil]
  ·obtain ⟨h1,h2⟩:=pad_zeros k n h hk
   rw [if_pos h2,Nat.div_eq_of_lt h,show k+1 - (decDigits n).length=(k - (decDigits n).length)+1 by omega,List.replicate_succ,List.cons_append,h1,dec_small (u:=0) (by omega)]
   rfl
 ·have hs:=dec_split k n (by omega)
  have hne2:(decDigits (n / 10 ^ k)).length ≠ 0:=fun e=>dec_ne _ (List.eq_nil_of_length_eq_zero e)
  have hl:(decDigits n).length=(decDigits (n / 10 ^ k)).length+k:=by rw [hs,List.length_append,pad_length]
  rw [if_neg (by omega)]
  exact hs
def dgL:Nat→Nat→List UInt8
 | 0,_=>[]
 | k+1,r=>if r=0 then [] else UInt8.ofNat (48+r / 10 ^ k) :: dgL k (r % 10 ^ k)
def dgOK (k r:Nat):Bool:=trimR (pad k r) == dgL k r && (dgL k r).all isDg && decide ((dgL k r).length≤k∧digW 0 (dgL k r)*10 ^ (k - (dgL k r).length)=r∧(dgL k r=[] ↔ r=0))
theorem dg3:(List.range 1000).all (dgOK 3)=true:=by kernel_rfl
theorem dg4:(List.range 10000).all (dgOK 4)=true:=by kernel_rfl
theorem dgOK_of {k r:Nat} (hk:k=3 ∨ k=4) (hr:r < 10 ^ k):dgOK k r=true:=by
 rcases hk with rfl | rfl
 ·exact List.all_eq_true.1 dg3 r (List.mem_range.2 hr)
 ·exact List.all_eq_true.1 dg4 r (List.mem_range.2 hr)
def ptR (k n:Nat):List UInt8:=itoa ((n / 10 ^ k:Nat):Int)++(if n % 10 ^ k=0 then [] else 46 :: dgL k (n % 10 ^ k))
theorem trim_pad {k n:Nat} (hk:k=0 ∨ k=3 ∨ k=4):trimR (pad k n)=dgL k (n % 10 ^ k)∧(dgL k (n % 10 ^ k)=[] ↔ n % 10 ^ k=0):=by
 rcases hk with rfl | hk
 ·exact ⟨rfl,by rw [Nat.pow_zero,Nat.mod_one]; exact ⟨fun _=>rfl,fun _=>rfl⟩⟩
 ·have:=dgOK_of hk (Nat.mod_lt n (Nat.pow_pos (n:=k) (by decide:0 < 10)))
  unfold dgOK at this
  rw [Bool.and_eq_true,Bool.and_eq_true,decide_eq_true_eq,pad_mod,beq_iff_eq] at this
  exact ⟨this.1.1,this.2.2.2⟩
end Go.Proofs.Tryz
namespace Go.Proofs.Tryz
open Go.Ad
open Go.Lib (decDigits itoa nDigits decFrom digitVal)
noncomputable def code114:Code:=f114.body.getD .skip
noncomputable def bodyTR:Code:=unLoop (findB 0 code114)
def spTR:SP:=⟨[.str,.is (.int .u8 48)]++dr 21,dd8⟩
theorem roundTR (a:List UInt8):execK prog (runK prog lib2 60) noBps bodyTR (spTR.rho [.s a]) (spTR.heap [.s a]) (nrmP (fun _=>spTR) 8 []) =
  brK (decide ((a.length:Int) > 0)) (brK (decide (0≤W ((a.length:Int) - 1)∧W ((a.length:Int) - 1) < (a.length:Int))) (brK (((a.getD (W ((a.length:Int) - 1)).toNat 0).toNat:Int) == 48) (brK (decide (0≤W ((a.length:Int) - 1)∧W ((a.length:Int) - 1)≤(a.length:Int)) && true)
   (some (.normal,[.s ((a.take (W ((a.length:Int) - 1)).toNat).drop 0)])) none) (some (.exit 0,[.s a]))) none) (some (.exit 0,[.s a])):=by kernel_rfl
theorem stepTR {l:List UInt8} {c:UInt8} (hs:(l++[c]).length < 2 ^ 62):execK prog (runK prog lib2 60) noBps bodyTR (spTR.rho [.s (l++[c])]) (spTR.heap [.s (l++[c])]) (nrmP (fun _=>spTR) 8 []) =
  if c=48 then some (.normal,[.s l]) else some (.exit 0,[.s (l++[c])]):=by
 rw [roundTR]
 have hl:(l++[c]).length=l.length+1:=by simp
 have e1:W (((l++[c]).length:Int) - 1)=(l.length:Int):=by rw [W_id (by omega) (by omega)]; omega
 rw [e1,decide_eq_true (show ((l++[c]).length:Int) > 0 by omega),decide_eq_true (show 0≤(l.length:Int)∧(l.length:Int) < ((l++[c]).length:Int) by omega),decide_eq_true (show 0≤(l.length:Int)∧(l.length:Int)≤((l++[c]).length:Int) by omega),Int.toNat_natCast,
  show (l++[c]).getD l.length 0=c by simp,List.take_left' rfl,List.drop_zero]
 by_cases h:c=48
 ·subst h; rfl
 ·have h2:c.toNat ≠ 48:=fun e=>h (UInt8.toNat_inj.1 e)
  rw [if_neg h,show ((c.toNat:Int) == 48)=false by rw [beq_eq_false_iff_ne]; omega]; rfl
noncomputable def hookTR:Blk:=hookP spTR 8 [] fun
 | [.s a]=>.br (szOK a) (.leaf (.normal,spTR,[.s (trimR a)])) .fail
 | _=>.fail
noncomputable def pF1:Prims:=pX6.addb 114 0 hookTR
theorem pF1_ok {A:Amb} (hT:Tab A) (hE:TabE A) (hG:prog.globals.size≤A.G):PrimOK prog A pF1:=by
 have hp:=lib2_ok hT
 refine PrimOK.addbP (pX6_ok hT hE hG) func114 (show f114.body=some code114 by kernel_rfl) (body:=.loop bodyTR) (by kernel_rfl) (by kernel_rfl) fun ls e sq l h=>?_
 split at h
 ·rename_i a
  obtain ⟨hc,hv⟩:=Tr.br1 h
  cases hv
  have hs:a.length < 2 ^ 62:=of_decide_eq_true hc
  refine ⟨fr8 rfl rfl,fun Bb hB=>SEB.block_exit (id:=0) ?_⟩
  refine SEB.while (fun a:List UInt8=>a.length < 2 ^ 62) List.length (fun a=>⟨spTR.rho [.s a],spTR.heap [.s a],[]⟩) (fun a=>(.exit 0,⟨spTR.rho [.s (trimR a)],spTR.heap [.s (trimR a)],[]⟩)) (fun a ha=>?_) a hs
  rcases List.eq_nil_or_concat a with rfl | ⟨l,c,rfl⟩
  ·right
   have hk:execK prog (runK prog lib2 60) noBps bodyTR (spTR.rho [.s []]) (spTR.heap [.s []]) (nrmP (fun _=>spTR) 8 [])=some (.exit 0,[.s []]):=roundTR []
   exact ⟨by simp,SEB.of_KP (A:=A) (B0:=Bb) (e:=.exit 0) hmix hnum hp (.none _) hB hk rfl⟩
  ·rw [List.concat_eq_append] at *
   have hk:=stepTR ha
   by_cases hb:c=48
   ·rw [if_pos hb] at hk
    left
    refine ⟨l,by rw [List.length_append] at ha; omega,by simp,?_,SEB.of_KP (A:=A) (B0:=Bb) (e:=.normal) hmix hnum hp (.none _) hB hk rfl⟩
    simp only [trimR_snoc,if_pos hb]
   ·rw [if_neg hb] at hk
    right
    refine ⟨by simp,?_⟩
    simp only [trimR_snoc,if_neg hb]
    exact SEB.of_KP (A:=A) (B0:=Bb) (e:=.exit 0) hmix hnum hp (.none _) hB hk rfl
 ·cases h
end Go.Proofs.Tryz
namespace Go.Proofs.Tryz
open Go.Ad
open Go.Lib (decDigits itoa nDigits decFrom digitVal)
noncomputable abbrev ptE (h r:List UInt8) (ok:Bool):Option AV :=
 brK (!(r == [])) (brK (ok && true) (brK (decide (h.length+1 < 4611686018427387904)) (brK (decide ((h++[46]).length+r.length < 4611686018427387904)) (some (.sstr (h++[46]++r))) none) none) none) (brK (ok && true) (some (.sstr h)) none)
noncomputable abbrev ptK (s:List UInt8) (j:Int):Option AV :=
 brK (true && decide (0≤j∧j≤(s.length:Int))) (brK ((s.take s.length).drop j.toNat == []) (ptE ((s.take j.toNat).drop 0) ((s.take s.length).drop j.toNat) (decide (0≤j∧j≤(s.length:Int))))
  (brK (szOK ((s.take s.length).drop j.toNat)) (ptE ((s.take j.toNat).drop 0) (trimR ((s.take s.length).drop j.toNat)) (decide (0≤j∧j≤(s.length:Int)))) none)) none
theorem run43 (n u:Int):(runK prog pF1 60).call 43 [.sint .i64 n,.sint .i64 u] (Bg 8) finV =
  brK (decide (-9223372036854775808≤n∧n≤9223372036854775807)) (brK (decide (((itoa n).length:Int)≤u))
   (brK (propB (([48]:List UInt8)=[48]∧IntKind.i64=IntKind.i64) && decide (0≤W (W (u+1) - (itoa n).length)∧W (W (u+1) - (itoa n).length)≤24))
    (brK (decide ((List.replicate (W (W (u+1) - (itoa n).length)).toNat (48:UInt8)).length+(itoa n).length < 4611686018427387904))
     (ptK (List.replicate (W (W (u+1) - (itoa n).length)).toNat 48++itoa n) (W (((List.replicate (W (W (u+1) - (itoa n).length)).toNat (48:UInt8)++itoa n).length:Int) - u))) none) none)
   (ptK (itoa n) (W (((itoa n).length:Int) - u)))) none:=by kernel_rfl
theorem ptK_eq {a b:List UInt8} (h:(a++b).length≤1000):ptK (a++b) (a.length:Int)=some (.sstr (a++(if trimR b=[] then [] else 46 :: trimR b))):=by
 have hl:(a++b).length=a.length+b.length:=List.length_append
 have e:∀ r:List UInt8,r.length≤1000→ptE a r true=some (.sstr (a++(if r=[] then [] else 46 :: r))):=fun r hr=>by
  unfold ptE
  cases r with
  | nil=>show some (AV.sstr a)=_; rw [if_pos rfl,List.append_nil]
  | cons c r =>
   rw [decide_eq_true (show a.length+1 < 4611686018427387904 by omega),decide_eq_true (show (a++[(46:UInt8)]).length+(c :: r).length < 4611686018427387904 by rw [List.length_append]; simp only [List.length_singleton]; omega),if_neg (by simp),List.append_assoc]
   rfl
 unfold ptK
 rw [decide_eq_true (show 0≤(a.length:Int)∧(a.length:Int)≤((a++b).length:Int) by omega),Int.toNat_natCast,List.take_length,List.drop_left' rfl,List.take_left' rfl,List.drop_zero,Bool.and_true,brK_t]
 cases b with
 | nil=>exact e [] (by simp)
 | cons c r =>
  rw [show ((c :: r:List UInt8) == [])=false from rfl,brK_f,show szOK (c :: r)=true from decide_eq_true (by omega),brK_t]
  refine e _ ?_
  unfold trimR
  rw [List.length_reverse]
  refine Nat.le_trans (List.Sublist.length_le (List.dropWhile_sublist _)) ?_
  rw [List.length_reverse]; omega
noncomputable def TPt:List Lf→Tr AV
 | [.i n,.i u]=>.br (propB (0≤n∧n≤100000∧(u=0 ∨ u=3 ∨ u=4))) (.leaf (.sstr (ptR u.toNat n.toNat))) .fail
 | _=>.fail
noncomputable def pF2:Prims:=pF1.addt 43 (gP [.int .i64,.int .i64] TPt)
def spDc (d:Int):SP:=⟨[.int .i64,.is (.int .i64 d)],dd8⟩
def dens:Nat→List Int
 | 0=>[]
 | k+1=>((10 ^ k:Nat):Int) :: dens k
noncomputable def dcK:List Int→List UInt8→Int→Option (List Lf)
 | [],acc,r=>brK (decide (r > 0)) none (some [.s acc])
 | d :: ds,acc,r=>brK (decide (r > 0)) (brK (propB (IntKind.i64=.i64∧-(2 ^ 63) < W (r.tdiv d)∧W (r.tdiv d) < 2 ^ 63)) (brK (decide (acc.length+(itoa (W (r.tdiv d))).length < 4611686018427387904)) (dcK ds (acc++itoa (W (r.tdiv d))) (r.tmod d)) none) none) (some [.s acc])
noncomputable abbrev deK (n d:Int) (l:List Int):Option (List Lf) :=
 brK (propB (IntKind.i64=.i64∧-(2 ^ 63) < W (n.tdiv d)∧W (n.tdiv d) < 2 ^ 63)) (brK (n.tmod d == 0) (some [.s (itoa (W (n.tdiv d)))]) (brK (decide ((itoa (W (n.tdiv d))).length+1 < 4611686018427387904)) (dcK l (itoa (W (n.tdiv d))++[46]) (n.tmod d)) none)) none
theorem run47a (n:Int):(runK prog pF2 60).call 47 ((spDc 1000).rho [.i n]) ((spDc 1000).heap [.i n]) (finP spS1 8 [])=deK n 1000 [100,10,1]:=by kernel_rfl
theorem run47b (n:Int):(runK prog pF2 60).call 47 ((spDc 10000).rho [.i n]) ((spDc 10000).heap [.i n]) (finP spS1 8 [])=deK n 10000 [1000,100,10,1]:=by kernel_rfl
theorem dcK_eq:∀ (k r:Nat) (acc:List UInt8),r < 10 ^ k→acc.length+k≤1000→dcK (dens k) acc (r:Int)=some [.s (acc++dgL k r)]
 | 0,r,acc,hr,_=>by
  have:r=0:=by simpa using hr
  subst this
  show some [Lf.s acc]=some [Lf.s (acc++[])]
  rw [List.append_nil]
 | k+1,r,acc,hr,ha=>by
  unfold dens dcK dgL
  by_cases h0:r=0
  ·subst h0
   rw [if_pos rfl,List.append_nil]; rfl
  ·have hd:r / 10 ^ k < 10:=by
    rw [Nat.div_lt_iff_lt_mul (Nat.pow_pos (by decide))]
    rw [Nat.pow_succ] at hr; omega
   have e1:(r:Int).tdiv ((10 ^ k:Nat):Int)=((r / 10 ^ k:Nat):Int):=rfl
   have e2:(r:Int).tmod ((10 ^ k:Nat):Int)=((r % 10 ^ k:Nat):Int):=rfl
   generalize hq:r / 10 ^ k=q at *
   generalize hr:r % 10 ^ k=r' at *
   rw [e1,e2,W_id (n:=(q:Int)) (by omega) (by omega),itoa_dig hd,decide_eq_true (show (r:Int) > 0 by omega),propB_true ⟨rfl,by omega,by omega⟩,if_neg h0,decide_eq_true (show acc.length+[UInt8.ofNat (48+q)].length < 4611686018427387904 by simp only [List.length_singleton]; omega),
    brK_t,brK_t,brK_t,dcK_eq k _ _ (hr ▸ Nat.mod_lt _ (Nat.pow_pos (by decide))) (by rw [List.length_append,List.length_singleton]; omega),List.append_assoc]
   rfl
theorem deK_eq {k n:Nat} (hk:k=3 ∨ k=4) (hn:n≤100000):deK (n:Int) ((10 ^ k:Nat):Int) (dens k)=some [.s (ptR k n)]:=by
 have e1:(n:Int).tdiv ((10 ^ k:Nat):Int)=((n / 10 ^ k:Nat):Int):=rfl
 have e2:(n:Int).tmod ((10 ^ k:Nat):Int)=((n % 10 ^ k:Nat):Int):=rfl
 have hq:n / 10 ^ k≤n:=Nat.div_le_self _ _
 have hl:(itoa ((n / 10 ^ k:Nat):Int)).length≤6:=itoaN_len (by omega) (by omega)
 unfold deK ptR
 have hw:-(2 ^ 63) < ((n / 10 ^ k:Nat):Int)∧((n / 10 ^ k:Nat):Int) < 2 ^ 63:=by
  generalize n / 10 ^ k=q at *
  omega
 have hw3:W ((n / 10 ^ k:Nat):Int)=((n / 10 ^ k:Nat):Int):=by
  generalize n / 10 ^ k=q at *
  exact W_id (by omega) (by omega)
 rw [e1,e2,hw3,propB_true ⟨rfl,hw.1,hw.2⟩,brK_t]
 by_cases h:n % 10 ^ k=0
 ·rw [if_pos h,show (((n % 10 ^ k:Nat):Int) == 0)=true by rw [h]; simp,brK_t,List.append_nil]
 ·rw [if_neg h,show (((n % 10 ^ k:Nat):Int) == 0)=false by rw [beq_eq_false_iff_ne]; omega,brK_f,decide_eq_true (show (itoa ((n / 10 ^ k:Nat):Int)).length+1 < 4611686018427387904 by omega),brK_t,
   dcK_eq k _ _ (Nat.mod_lt _ (Nat.pow_pos (by decide))) (by rw [List.length_append,List.length_singleton]; omega),List.append_assoc]
  rfl
noncomputable def TDe (k:Nat):List Lf→Tr (SP × List Lf)
 | [.i n]=>.br (propB (0≤n∧n≤100000)) (.leaf (spS1,[.s (ptR k n.toNat)])) .fail
 | _=>.fail
noncomputable def pF3:Prims:=pF2.addh 47 (liftG 8 (gAlt (funP (spDc 1000) 8 [] (TDe 3)) (funP (spDc 10000) 8 [] (TDe 4))))
section
variable {A:Amb} (hT:Tab A) (hE:TabE A) (hG:prog.globals.size≤A.G)
include hT hE hG
theorem pF2_ok:PrimOK prog A pF2:=by
 have hp:=pF1_ok hT hE hG
 refine PrimOK.addP hmix hnum hp hp hG func43 (by kernel_rfl) fun ls v h=>?_
 unfold TPt at h
 split at h
 ·rename_i n u
  obtain ⟨hc,hv⟩:=Tr.br1 h
  cases hv
  obtain ⟨h1,h2,hu⟩:=propB_eq hc
  obtain ⟨n,rfl⟩:=Int.eq_ofNat_of_zero_le h1
  obtain ⟨k,rfl⟩:=Int.eq_ofNat_of_zero_le (show 0≤u by omega)
  refine ⟨rfl,60,.sstr (ptR k n),?_,rfl,fun ι z h=>by rwa [Int.toNat_natCast,Int.toNat_natCast]⟩
  rw [gsz]
  refine (run43 n k).trans ?_
  have hk:k=0 ∨ k=3 ∨ k=4:=by omega
  obtain ⟨t1,t2⟩:=trim_pad (n:=n) hk
  have hl:(itoa (n:Int)).length≤6:=itoaN_len (by omega) (by omega)
  have hl0:1≤(itoa (n:Int)).length:=by
   have:=itoa_ne (n:Int)
   cases h:itoa (n:Int) with
   | nil=>exact (this h).elim
   | cons b r=>simp
  have key:∀ s,s=pdT k n→(s.length≤100)→ptK s (W ((s.length:Int) - (k:Int)))=some (.sstr (ptR k n)):=fun s hs h100=>by
   have he:=pdT_eq k n
   rw [← hs] at he
   have hle:(s.length:Int) - (k:Int)=((itoa ((n / 10 ^ k:Nat):Int)).length:Int):=by
    rw [he,List.length_append,pad_length]; omega
   rw [W_id (by omega) (by omega),hle,he,ptK_eq (by rw [← he]; omega),t1]
   unfold ptR
   by_cases h0:n % 10 ^ k=0
   ·rw [if_pos h0,if_pos (t2.2 h0)]
   ·rw [if_neg h0,if_neg (fun e=>h0 (t2.1 e))]
  rw [decide_eq_true (show -9223372036854775808≤(n:Int)∧(n:Int)≤9223372036854775807 by omega),brK_t]
  by_cases hc:(itoa (n:Int)).length≤k
  ·have e3:W (W ((k:Int)+1) - ((itoa (n:Int)).length:Int))=((k+1 - (itoa (n:Int)).length:Nat):Int):=by
    rw [W_id (n:=(k:Int)+1) (by omega) (by omega),W_id (by omega) (by omega)]; omega
   rw [e3,Int.toNat_natCast,decide_eq_true (show ((itoa (n:Int)).length:Int)≤(k:Int) by omega),propB_true ⟨rfl,rfl⟩,decide_eq_true (show 0≤((k+1 - (itoa (n:Int)).length:Nat):Int)∧((k+1 - (itoa (n:Int)).length:Nat):Int)≤24 by omega),
    decide_eq_true (show (List.replicate (k+1 - (itoa (n:Int)).length) (48:UInt8)).length+(itoa (n:Int)).length < 4611686018427387904 by rw [List.length_replicate]; omega)]
   refine key _ ?_ (by rw [List.length_append,List.length_replicate]; omega)
   unfold pdT
   rw [if_pos hc]
  ·rw [decide_eq_false (show ¬ ((itoa (n:Int)).length:Int)≤(k:Int) by omega)]
   refine key _ ?_ (by omega)
   unfold pdT
   rw [if_neg hc]
 ·cases h
theorem pF3_ok:PrimOK prog A pF3:=by
 have hp:=pF2_ok hT hE hG
 refine hp.addl gsz func47 (by kernel_rfl) fun args B v B' D h=>?_
 rcases gAlt_get h with h | h
 ·refine funP_ok hmix hnum rfl (fun ls sq l h=>?_) _ _ _ _ _ h
  unfold TDe at h
  split at h
  ·rename_i n
   obtain ⟨hc,hv⟩:=Tr.br1 h
   cases hv
   obtain ⟨h1,h2⟩:=propB_eq hc
   obtain ⟨n,rfl⟩:=Int.eq_ofNat_of_zero_le h1
   exact ⟨fr8 rfl rfl,rfl,rfl,pF2,60,hp,(run47a n).trans (deK_eq (k:=3) (.inl rfl) (by omega))⟩
  ·cases h
 ·refine funP_ok hmix hnum rfl (fun ls sq l h=>?_) _ _ _ _ _ h
  unfold TDe at h
  split at h
  ·rename_i n
   obtain ⟨hc,hv⟩:=Tr.br1 h
   cases hv
   obtain ⟨h1,h2⟩:=propB_eq hc
   obtain ⟨n,rfl⟩:=Int.eq_ofNat_of_zero_le h1
   exact ⟨fr8 rfl rfl,rfl,rfl,pF2,60,hp,(run47b n).trans (deK_eq (k:=4) (.inr rfl) (by omega))⟩
  ·cases h
end
end Go.Proofs.Tryz
namespace Go.Proofs.Tryz
open Go.Ad
open Go.Lib (decDigits itoa nDigits decFrom digitVal)
def wT:Nat→List UInt8
 | 0=>[117,109]
 | 1=>[109,109]
 | 2=>[99,109]
 | 3=>[105,110]
 | _=>[116,104,111,117]
def vT:Nat→List UInt8
 | 0=>[49]
 | 1=>[49,48,48,48]
 | 2=>[49,48,48,48,48]
 | 3=>[50,53,52,48,48]
 | _=>[49,50,55,47,53]
def lenT (u m:Nat):List UInt8:=match u with
 | 0=>itoa (m:Int)
 | 1=>ptR 3 m
 | 2=>ptR 4 m
 | u=>lowT ((m:Int)*ratD (vT u)) (ratN (vT u))
def sgT (n:Int):List UInt8:=if n < 0 then [45] else []
def fmR (n u:Int):List UInt8 × Int:=if n < -100000 ∨ n > 100000 then ([],2) else if u < 0 ∨ u > 4 then ([],20) else (sgT n++lenT u.toNat n.natAbs++[32]++wT u.toNat,0)
noncomputable abbrev ouK (sg w x:List UInt8):Option (List Lf) :=
 brK (decide (sg.length+x.length < 4611686018427387904)) (brK (decide ((sg++x).length+1 < 4611686018427387904)) (brK (decide ((sg++x++[32]).length+w.length < 4611686018427387904)) (some [.s (sg++x++[32]++w),.i 0]) none) none) none
noncomputable abbrev ptC (sg w:List UInt8) (m k:Int):Option (List Lf):=brK (propB (0≤m∧m≤100000∧(k=0 ∨ k=3 ∨ k=4))) (ouK sg w (ptR k.toNat m.toNat)) none
noncomputable abbrev qutT (m:Int) (v:List UInt8):List UInt8:=lowT (ratN (itoa m)*ratD v) (ratD (itoa m)*ratN v)
noncomputable abbrev qoC (sg w:List UInt8) (m:Int) (v:List UInt8):Option (List Lf):=brK (propB (smN m)) (brK (propB (smQ (itoa m)∧smQ v∧¬ ratN v=0)) (ouK sg w (qutT m v)) none) none
noncomputable abbrev in19 (u:Int) (sg w:List UInt8) (m:Int):Option (List Lf) :=
 brK (decide (u=0)) (ptC sg w m 0) (brK (decide (u=1)) (ptC sg w m 3) (brK (decide (u=2)) (ptC sg w m 4) (brK (decide (u=3)) (qoC sg w m (vT 3)) (brK (decide (u=4)) (qoC sg w m (vT 4)) none))))
noncomputable abbrev byC (u:Int) (sg w:List UInt8) (m:Int) (v:List UInt8):Option (List Lf) :=
 brK (propB (smQ (itoa m)∧smQ v∧¬ ratN v=0)) (brK (u == 1) (brK (propB (0≤m∧m≤100000)) (brK (u == 2) (brK (propB (0≤m∧m≤100000)) (ouK sg w (ptR 4 m.toNat)) none) (ouK sg w (ptR 3 m.toNat))) none)
  (brK (u == 2) (brK (propB (0≤m∧m≤100000)) (ouK sg w (ptR 4 m.toNat)) none) (ouK sg w (qutT m v)))) none
noncomputable abbrev in20 (u:Int) (sg w:List UInt8) (m:Int):Option (List Lf) :=
 brK (propB (smN m)) (brK (decide (u=0)) (byC u sg w m (vT 0)) (brK (decide (u=1)) (byC u sg w m (vT 1)) (brK (decide (u=2)) (byC u sg w m (vT 2)) (brK (decide (u=3)) (byC u sg w m (vT 3)) (brK (decide (u=4)) (byC u sg w m (vT 4)) none))))) none
noncomputable abbrev sgK (n:Int) (k:List UInt8→Int→Option (List Lf)):Option (List Lf):=brK (decide (n < 0)) (k [45] (W (0 - n))) (k [] n)
noncomputable abbrev woK (u:Int) (k:List UInt8→Option (List Lf)):Option (List Lf) :=
 brK (decide (u=0)) (k (wT 0)) (brK (decide (u=1)) (k (wT 1)) (brK (decide (u=2)) (k (wT 2)) (brK (decide (u=3)) (k (wT 3)) (brK (decide (u=4)) (k (wT 4)) none))))
def spNU:SP:=⟨[.int .i64,.int .i64],dd8⟩
theorem run19 (n u:Int):(runK prog pF3 60).call 19 (spNU.rho [.i n,.i u]) (spNU.heap [.i n,.i u]) (finQ spRI 8 []) =
  brK (decide (n < -100000)) (e2 2) (brK (decide (n > 100000)) (e2 2) (brK (decide (u < 0)) (e2 20) (brK (decide (u ≥ 5)) (e2 20) (woK u fun w=>sgK n fun sg m=>in19 u sg w m)))):=by kernel_rfl
theorem run20 (n u:Int):(runK prog pF3 60).call 20 (spNU.rho [.i n,.i u]) (spNU.heap [.i n,.i u]) (finQ spRI 8 []) =
  brK (decide (n < -100000)) (e2 2) (brK (decide (n > 100000)) (e2 2) (brK (decide (u < 0)) (e2 20) (brK (decide (u > 4)) (e2 20) (woK u fun w=>sgK n fun sg m=>in20 u sg w m)))):=by kernel_rfl
theorem vT_ok (u:Nat) (hu:u≤4):smQ (vT u)∧¬ ratN (vT u)=0∧1≤ratN (vT u)∧ratN (vT u)≤25400∧1≤ratD (vT u)∧ratD (vT u)≤5:=by
 have hv:unitV (wT u)=some (vT u):=by
  match u,hu with
  | 0,_=>rfl
  | 1,_=>rfl
  | 2,_=>rfl
  | 3,_=>rfl
  | 4,_=>rfl
 refine ⟨(unitV_ok hv).1,?_⟩
 match u,hu with
 | 0,_=>decide +kernel
 | 1,_=>decide +kernel
 | 2,_=>decide +kernel
 | 3,_=>decide +kernel
 | 4,_=>decide +kernel
noncomputable def TFm:List Lf→Tr (SP × List Lf)
 | [.i n,.i u]=>.leaf (spRI,[.s (fmR n u).1,.i (fmR n u).2])
 | _=>.fail
noncomputable def pF4:Prims:=(pF3.addh 19 (liftG 8 (funQ spNU 8 [] TFm))).addh 20 (liftG 8 (funQ spNU 8 [] TFm))
theorem ptR_len {k m:Nat} (hk:k=0 ∨ k=3 ∨ k=4) (hm:m≤100000):(ptR k m).length≤20:=by
 have hq:m / 10 ^ k≤m:=Nat.div_le_self _ _
 have hl:(itoa ((m / 10 ^ k:Nat):Int)).length≤6:=itoaN_len (by omega) (by omega)
 unfold ptR
 split
 ·rw [List.append_nil]; omega
 ·rename_i h
  rcases hk with rfl | hk
  ·exact (h (by rw [Nat.pow_zero,Nat.mod_one])).elim
  ·have:=dgOK_of hk (Nat.mod_lt m (Nat.pow_pos (n:=k) (by decide:0 < 10)))
   unfold dgOK at this
   rw [Bool.and_eq_true,Bool.and_eq_true,decide_eq_true_eq] at this
   rw [List.length_append,List.length_cons]
   omega
theorem ptR_0 (m:Nat):ptR 0 m=itoa (m:Int):=by
 unfold ptR
 rw [if_pos (by rw [Nat.pow_zero,Nat.mod_one]),List.append_nil,Nat.pow_zero,Nat.div_one]
theorem qutT_eq (m:Nat) (v:List UInt8):qutT (m:Int) v=lowT ((m:Int)*ratD v) (ratN v):=by
 unfold qutT
 rw [(rng_itoa m).1,(rng_itoa m).2,Int.one_mul]
theorem qutT_0 (m:Nat):qutT (m:Int) (vT 0)=itoa (m:Int):=by
 rw [qutT_eq,show ratD (vT 0)=1 by decide +kernel,show ratN (vT 0)=1 by decide +kernel]
 exact ((Rq.low (A:=(m:Int)*1) (B:=1) (by omega) (by omega) (Rq.itoa m).2.2 (by omega)).1).trans (Rq.itoa m).1.symm
theorem qutT_len {m u:Nat} (hu:u≤4) (hm:m≤100000):(qutT (m:Int) (vT u)).length≤300:=by
 obtain ⟨_,h0,h1,h2,h3,h4⟩:=vT_ok u hu
 rw [qutT_eq]
 obtain ⟨N,D,r1,r2,r3,r4,_⟩:=low_ex (A:=(m:Int)*ratD (vT u)) h0
 have hp:(m:Int)*ratD (vT u)≤100000*5:=Int.mul_le_mul (by omega) h4 (by omega) (by omega)
 have hp0:0≤(m:Int)*ratD (vT u):=Int.mul_nonneg (by omega) (by omega)
 rw [r1.1]
 exact ratT_len (by omega) (by omega)
theorem ouK_eq {sg w x:List UInt8} (h1:sg.length≤1) (h2:w.length≤10) (h3:x.length≤1000):ouK sg w x=some [.s (sg++x++[32]++w),.i 0]:=by
 unfold ouK
 rw [decide_eq_true (show sg.length+x.length < 4611686018427387904 by omega),decide_eq_true (show (sg++x).length+1 < 4611686018427387904 by rw [List.length_append]; omega),decide_eq_true (show (sg++x++[(32:UInt8)]).length+w.length < 4611686018427387904 by rw [List.length_append,List.length_append,List.length_singleton]; omega)]
 rfl
theorem in_eq {u m:Nat} {sg w:List UInt8} (hu:u≤4) (hm:m≤100000) (h1:sg.length≤1) (h2:w.length≤10) :
  in19 (u:Int) sg w (m:Int)=some [.s (sg++lenT u m++[32]++w),.i 0]∧in20 (u:Int) sg w (m:Int)=some [.s (sg++lenT u m++[32]++w),.i 0]:=by
 have hn:smN (m:Int):=⟨by omega,by omega⟩
 have hq:smQ (itoa (m:Int)):=smQ_itoa (by omega)
 have hp:0≤(m:Int)∧(m:Int)≤100000:=by omega
 have l0:=ouK_eq (sg:=sg) (w:=w) (x:=itoa (m:Int)) h1 h2 (by have:=ptR_len (.inl rfl) hm; rw [ptR_0] at this; omega)
 have l1:=ouK_eq (sg:=sg) (w:=w) (x:=ptR 3 m) h1 h2 (by have:=ptR_len (.inr (.inl rfl)) hm; omega)
 have l2:=ouK_eq (sg:=sg) (w:=w) (x:=ptR 4 m) h1 h2 (by have:=ptR_len (.inr (.inr rfl)) hm; omega)
 have lq:∀ u,u≤4→ouK sg w (qutT (m:Int) (vT u))=some [.s (sg++qutT (m:Int) (vT u)++[32]++w),.i 0]:=fun u hu=>ouK_eq h1 h2 (by have:=qutT_len hu hm; omega)
 have hv:∀ u,u≤4→(smQ (itoa (m:Int))∧smQ (vT u)∧¬ ratN (vT u)=0):=fun u hu=>⟨hq,(vT_ok u hu).1,(vT_ok u hu).2.1⟩
 match u,hu with
 | 0,_ =>
  refine ⟨?_,?_⟩
  ·show brK (propB _) (ouK sg w (ptR 0 m)) none=_
   rw [propB_true ⟨hp.1,hp.2,.inl rfl⟩,brK_t,ptR_0]; exact l0
  ·show brK (propB _) (brK (propB _) (ouK sg w (qutT (m:Int) (vT 0))) none) none=_
   rw [propB_true hn,propB_true (hv 0 (by omega)),brK_t,brK_t,qutT_0]; exact l0
 | 1,_ =>
  refine ⟨?_,?_⟩
  ·show brK (propB _) (ouK sg w (ptR 3 m)) none=_
   rw [propB_true ⟨hp.1,hp.2,.inr (.inl rfl)⟩,brK_t]; exact l1
  ·show brK (propB _) (brK (propB _) (brK (propB _) (ouK sg w (ptR 3 m)) none) none) none=_
   rw [propB_true hn,propB_true (hv 1 (by omega)),propB_true hp,brK_t,brK_t,brK_t]; exact l1
 | 2,_ =>
  refine ⟨?_,?_⟩
  ·show brK (propB _) (ouK sg w (ptR 4 m)) none=_
   rw [propB_true ⟨hp.1,hp.2,.inr (.inr rfl)⟩,brK_t]; exact l2
  ·show brK (propB _) (brK (propB _) (brK (propB _) (ouK sg w (ptR 4 m)) none) none) none=_
   rw [propB_true hn,propB_true (hv 2 (by omega)),propB_true hp,brK_t,brK_t,brK_t]; exact l2
 | 3,_ =>
  have:=lq 3 (by omega)
  have e:lenT 3 m=qutT (m:Int) (vT 3):=(qutT_eq m (vT 3)).symm
  rw [e]
  refine ⟨?_,?_⟩
  ·show brK (propB _) (brK (propB _) (ouK sg w (qutT (m:Int) (vT 3))) none) none=_
   rw [propB_true hn,propB_true (hv 3 (by omega)),brK_t,brK_t]; exact this
  ·show brK (propB _) (brK (propB _) (ouK sg w (qutT (m:Int) (vT 3))) none) none=_
   rw [propB_true hn,propB_true (hv 3 (by omega)),brK_t,brK_t]; exact this
 | 4,_ =>
  have:=lq 4 (by omega)
  have e:lenT 4 m=qutT (m:Int) (vT 4):=(qutT_eq m (vT 4)).symm
  rw [e]
  refine ⟨?_,?_⟩
  ·show brK (propB _) (brK (propB _) (ouK sg w (qutT (m:Int) (vT 4))) none) none=_
   rw [propB_true hn,propB_true (hv 4 (by omega)),brK_t,brK_t]; exact this
  ·show brK (propB _) (brK (propB _) (ouK sg w (qutT (m:Int) (vT 4))) none) none=_
   rw [propB_true hn,propB_true (hv 4 (by omega)),brK_t,brK_t]; exact this
theorem wT_len (u:Nat):(wT u).length≤10:=by
 unfold wT
 split <;> decide
theorem fm_gen {n u:Int} {b:Bool} (hb:b=decide (u > 4)) {k:Int→List UInt8→List UInt8→Int→Option (List Lf)} (hk:∀ (u m:Nat) (sg w:List UInt8),u≤4→m≤100000→sg.length≤1→w.length≤10→k (u:Int) sg w (m:Int)=some [.s (sg++lenT u m++[32]++w),.i 0]) :
  brK (decide (n < -100000)) (e2 2) (brK (decide (n > 100000)) (e2 2) (brK (decide (u < 0)) (e2 20) (brK b (e2 20) (woK u fun w=>sgK n fun sg m=>k u sg w m))))=some [.s (fmR n u).1,.i (fmR n u).2]:=by
 subst hb
 unfold fmR
 by_cases h1:n < -100000
 ·rw [decide_eq_true h1,if_pos (.inl h1)]; rfl
 ·rw [decide_eq_false h1,brK_f]
  by_cases h2:n > 100000
  ·rw [decide_eq_true h2,if_pos (.inr h2)]; rfl
  ·rw [decide_eq_false h2,brK_f,if_neg (by omega)]
   by_cases h3:u < 0
   ·rw [decide_eq_true h3,if_pos (.inl h3)]; rfl
   ·rw [decide_eq_false h3,brK_f]
    by_cases h4:u > 4
    ·rw [decide_eq_true h4,if_pos (.inr h4)]; rfl
    ·rw [decide_eq_false h4,brK_f,if_neg (by omega)]
     obtain ⟨u,rfl⟩:=Int.eq_ofNat_of_zero_le (show 0≤u by omega)
     have hu:u≤4:=by omega
     have hw:∀ w,w.length≤10→(sgK n fun sg m=>k (u:Int) sg w m)=some [.s (sgT n++lenT u n.natAbs++[32]++w),.i 0]:=fun w hw=>by
      unfold sgK sgT
      by_cases h5:n < 0
      ·have e:W (0 - n)=((n.natAbs:Nat):Int):=by rw [W_id (by omega) (by omega)]; omega
       rw [decide_eq_true h5,if_pos h5,brK_t,e]
       exact hk u n.natAbs [45] w hu (by omega) (by simp) hw
      ·rw [decide_eq_false h5,if_neg h5,brK_f]
       have:=hk u n.natAbs [] w hu (by omega) (by simp) hw
       rwa [show ((n.natAbs:Nat):Int)=n by omega] at this
     rw [Int.toNat_natCast]
     match u,hu,hw with
     | 0,_,hw=>exact hw _ (wT_len 0)
     | 1,_,hw=>exact hw _ (wT_len 1)
     | 2,_,hw=>exact hw _ (wT_len 2)
     | 3,_,hw=>exact hw _ (wT_len 3)
     | 4,_,hw=>exact hw _ (wT_len 4)
section
variable {A:Amb} (hT:Tab A) (hE:TabE A) (hG:prog.globals.size≤A.G)
include hT hE hG
theorem pF4_ok:PrimOK prog A pF4:=by
 have hp:=pF3_ok hT hE hG
 refine (hp.addl gsz func19 (by kernel_rfl) (funQ_ok hmix hnum rfl fun ls sq l h=>?_)).addl gsz func20 (by kernel_rfl) (funQ_ok hmix hnum rfl fun ls sq l h=>?_)
 ·unfold TFm at h
  split at h
  ·rename_i n u
   cases h
   exact ⟨fr8 rfl rfl,rfl,pF3,60,_,hp,(run19 n u).trans (fm_gen (by rw [decide_eq_decide]; omega) (k:=in19) fun u m sg w h1 h2 h3 h4=>(in_eq h1 h2 h3 h4).1),fun _ _=>.refl⟩
  ·cases h
 ·unfold TFm at h
  split at h
  ·rename_i n u
   cases h
   exact ⟨fr8 rfl rfl,rfl,pF3,60,_,hp,(run20 n u).trans (fm_gen rfl (k:=in20) fun u m sg w h1 h2 h3 h4=>(in_eq h1 h2 h3 h4).2),fun _ _=>.refl⟩
  ·cases h
end
end Go.Proofs.Tryz
