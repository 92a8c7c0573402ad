/- A region whose order is open: whatever order its edges allow gives the same; the run. -/
import Derived.Test.YtoboneiigikidaaGreatDoorAdSound5
namespace Go.Ad
section
variable {P:Program} {A:Amb} {r:Rec} {ops:Array Oper} {m:Nat} {U0:List AV} {B0:Heap}
theorem A7y{e:List Nat}(hn:e.Nodup)(hlt:∀ j,j∈e->j<m)(hf:∀ j,j<m->j∈e):e.length=m:=by
 have:e.Perm (List.range m):=(List.perm_ext_iff_of_nodup hn List.nodup_range).2 fun j=>⟨fun h=>List.mem_range.2 (hlt j h),fun h=>hf j (List.mem_range.1 h)⟩
 rw[this.length_eq]; simp
theorem D2n:∀ (m:Nat) (e:List Nat),e.Nodup->(∀ j,j∈e->j<m)->e.length<=m
 | 0,e,_,h=>by cases e with | nil=>simp | cons a l=>have:=h a (by simp); omega
 | m+1,e,hn,h=>by
  have h1:=D2n m (e.erase m) (hn.erase m) fun j hj=>by
   rw[hn.mem_erase_iff] at hj
   have:=h j hj.2; have:=hj.1; omega
  rw[List.length_erase] at h1
  split at h1<;>omega
theorem A4r{e:List Nat}(hn:e.Nodup)(hlt:∀ j,j∈e->j<m)(hf:¬ ∀ j,j<m->j∈e):e.length<m:=by
 obtain⟨j0,h⟩:=Classical.not_forall.1 hf
 obtain⟨h1,h2⟩:=Classical.not_imp.1 h
 have h3:(j0::e).Nodup:=List.nodup_cons.2 ⟨h2,hn⟩
 have:=D2n m (j0::e) h3 fun x hx=>by
  rcases List.mem_cons.1 hx with rfl | hx
  ·exact h1
  ·exact hlt x hx
 simp at this; omega
mutual
theorem B7w{n n':Nat}(h:n<=n'):∀ {a:AV},F3 n a=true->F3 n' a=true
 | .ptr (some (b,_)),hb=>by simp only[F3,dQ] at *; omega
 | .slice (some (b,_)) _ _,hb=>by simp only[F3,dQ] at *; omega
 | .map (some b),hb=>by simp only[F3,dQ] at *; omega
 | .func f xs ys,hb=>by
  cases f with
  | yield l =>
   simp only[F3,bA,dQ] at *
   exact⟨⟨by omega,N7 h hb.1.2⟩,N7 h hb.2⟩
  | _=>simp only[F3,bA] at *; exact⟨N7 h hb.1,N7 h hb.2⟩
 | .iface _ v,hb=>by simp only[F3] at *; exact B7w h hb
 | .agg xs,hb=>by simp only[F3] at *; exact N7 h hb
 | .tuple xs,hb=>by simp only[F3] at *; exact N7 h hb
 | .bad,_=>rfl
 | .bool _,_=>rfl
 | .int _ _,_=>rfl
 | .rng ..,_=>rfl
 | .str _,_=>rfl
 | .sint ..,_=>rfl
 | .sbool _,_=>rfl
 | .sstr _,_=>rfl
 | .lstr ..,_=>rfl
 | .flist ..,_=>rfl
 | .fptr ..,_=>rfl
 | .sslice b _ _,hb=>by simp only[F3,Bool.or_eq_true,dQ] at *; omega
 | .aslc b _ _,hb=>by simp only[F3,dQ] at *; omega
 | .sptr b _ _,hb=>by simp only[F3,dQ] at *; omega
 | .dptr b _,hb=>by simp only[F3,Bool.or_eq_true,dQ] at *; omega
 | .ptr none,_=>rfl
 | .slice none _ _,_=>rfl
 | .map none,_=>rfl
 | .nilFunc,_=>rfl
 | .nilIface,_=>rfl
theorem N7{n n':Nat}(h:n<=n'):∀ {l:List AV},I8 n l=true->I8 n' l=true
 | [],_=>rfl
 | x::xs,hb=>by simp only[I8,bA] at *; exact⟨B7w h hb.1,N7 h hb.2⟩
end
theorem OBel.mono{n n':Nat}(h:n<=n'){o:AObj}(ho:OBel n o):OBel n' o:=by
 cases o with
 | cells c es rw ty=>exact N7 h ho
 | tail n row es tl ty=>exact N7 h ho
 | loop lo=>exact N7 h ho
 | maps es=>exact⟨N7 h ho.1,N7 h ho.2⟩
 | miter=>trivial
 | smap=>trivial
 | iter=>trivial
 | vec=>trivial
 | text=>trivial
 | arr=>trivial
 | dead=>trivial
theorem C3d{T:Trc P r ops m U0 B0}{Z0 Z:Emb}{w0 w:World}{listed:Array Bool}{e:List Nat}{t:Array Value}(hj:J A T Z0 w0 listed e Z w t)(hreg:RegBase ops m)(hm:m<=ops.size){i:Nat}{o:Oper}(hi:i<m)(hie:i∉e)(ho:ops[i]?=some o)(hdir:∀ e',e'∈o.after->Region.binds .any e'=true->e'.on∈e){x:Nat}(hx:x∈looks ops o)(hlt:x<U0.length) :
  ∃ a u,(T.R i)[x]?=some a/\t[x]?=some u/\VR Z a u:=by
 classical
 obtain⟨s1,s2⟩:=T.slots hreg hm x hlt i (by omega)
 have hbef:=O3 hj.cl hreg.back i o ho hdir
 by_cases hw:∃ j q,j<i/\ops[j]?=some q/\q.dst=some x
 ·obtain⟨j,q,h1,h2,h3⟩:=hw
  rcases hreg.sees i j o q x hi (by omega) (by omega) ho h2 h3 hx with⟨_,h4⟩ | ⟨h4,_⟩
  ·obtain⟨u,p,q'⟩:=hj.wr x hlt j (hbef j h4) q h2 h3
   exact⟨_,u,s1 j q h1 h2 h3,p,q'⟩
  ·omega
 ·have h2:(T.R i)[x]?=U0[x]?:=s2 fun j q h1 h2 h3=>hw ⟨j,q,h1,h2,h3⟩
  have ha:U0[x]?=some U0[x]:=gE hlt
  obtain⟨u,p,q⟩:=hj.nw x _ ha fun j hje q hq hd=>by
   by_cases hji:j<i
   ·exact hw ⟨j,q,hji,hq,hd⟩
   ·have hne:j≠i:=fun h=>by subst h; exact hie hje
    rcases hreg.sees i j o q x hi (hj.lt j hje) (Ne.symm hne) ho hq hd hx with⟨h4,_⟩ | ⟨h4,h5⟩
    ·omega
    ·exact hie (O3 hj.cl hreg.back j q hq (fun e' h1 h2=>hj.cl j q hje hq e' h1 h2) i h5)
  exact⟨_,u,h2.trans ha,p,q⟩
theorem F3p{T:Trc P r ops m U0 B0}{Z0 Z:Emb}{w0 w:World}{listed:Array Bool}{e:List Nat}{t:Array Value}(hj:J A T Z0 w0 listed e Z w t)(hfr:FrOK r)(hm:m<=ops.size){i:Nat}(hi:i<=m){b:Nat}{l:Loc}(hb:Z b=some l)(hlt:b<(T.H i).length){o:AObj}(ho:(T.H m)[b]?=some o):OBel (T.H i).length o:=by
 rcases hj.dom b l hb with⟨_,h2⟩ | ⟨j,h1,h2,h3,h4⟩
 ·refine(h2 o ho).mono ?_
  have:=(T.mono hfr hm i 0 (Nat.zero_le _) hi).1
  rwa [T.h0] at this
 ·refine(h4 o ho).mono ?_
  by_cases hji:j<i
  ·exact(T.mono hfr hm i (j+1) (by omega) hi).1
  ·have:=(T.mono hfr hm j i (by omega) (by have:=hj.lt j h1; omega)).1; omega
theorem F3n{T:Trc P r ops m U0 B0}{Z0 Z:Emb}{w0 w:World}{listed:Array Bool}{e:List Nat}{t:Array Value}(hj:J A T Z0 w0 listed e Z w t)(hfr:FrOK r)(hm:m<=ops.size){i:Nat}(hi:i<=m):Sim A ⟨fun b=>if b<(T.H i).length then Z b else none,Z.fz⟩ (T.H i) w.heap:=by
 have hfr':=T.mono hfr hm m i hi (lR _)
 have hget:∀ b o,(T.H i)[b]?=some o->b<(T.H i).length/\(T.H m)[b]?=some o:=fun b o hb=>by
  have hlt:=(gS.1 hb).1
  exact⟨hlt,(hfr'.2 b hlt (by simp)).trans hb⟩
 have hZ:∀ b l,(if b<(T.H i).length then Z b else none)=some l->Z b=some l:=fun b l hl=>by
  split at hl
  ·exact hl
  ·cases hl
 have hs:=hj.sim
 refine⟨fun b o l hb hl=>?_,fun b l hl=>hs.lt b l (hZ b l hl),fun b b' l l' o o' hne hl hl' hb hb'=>?_,hs.amb,fun b l o hl hb=>hs.ownG b l o (hZ b l hl) (hget b o hb).2,hs.gLe,hs.fzOK,fun c v b l o hc hl hb=>hs.fzSep c v b l o hc (hZ b l hl) (hget b o hb).2⟩
 ·obtain⟨h1,h2⟩:=hget b o hb
  have h3:=hZ b l hl
  exact Y4 (Z:=Z) (n:=(T.H i).length) ⟨fun x hx=>by simp[hx],fun _ _ h=>h⟩ (F3p hj hfr hm hi h3 h1 h2) (hs.obj b o l h2 h3)
 ·exact hs.own b b' l l' o o' hne (hZ b l hl) (hZ b' l' hl') (hget b o hb).2 (hget b' o' hb').2
theorem E4v{T:Trc P r ops m U0 B0}(hr:SRec P A r)(hfr:FrOK r)(hm:m<=ops.size){Z0:Emb}{w0:World}{t0:Array Value}(hs:Sim A Z0 B0 w0.heap)(hd:Dom Z0 B0.length)(hg:GlobOK P Z0)(hv:VRL Z0 U0 t0.toList){i:Nat}(hi:i<=m){x:Nat}{a:AV}(ha:(T.R i)[x]?=some a):F3 (T.H i).length a=true:=by
 obtain⟨Z,w,t,h1,h2⟩:=T.below hr hfr hm hs hd hg hv i hi
 exact A4m (V9 h2.dom h1) ha
end
end Go.Ad
