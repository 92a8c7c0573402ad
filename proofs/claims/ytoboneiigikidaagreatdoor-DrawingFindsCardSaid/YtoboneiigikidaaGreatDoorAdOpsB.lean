/- Rows of numbers: indices, stretches, copies, new rows, bytes as a text; and all operations on lists. -/
import Derived.Test.YtoboneiigikidaaGreatDoorAdOpsA
namespace Go.Ad
section
variable {P:Program} {A:Amb} {Z:Emb} {B:Heap} {w:World}
theorem G1k{b s n:Nat}{x:Value}:VR Z (.aslc b s n) x↔VR Z (.slice (some (b,s)) n n) x:=by simp only[VR]
theorem Got.val{s:Sem Next}{a a':AV}{B':Heap}{D:List Nat}(h:Got P A Z B w s a B' D)(ha:∀ Z x,VR Z a x->VR Z a' x):Got P A Z B w s a' B' D:=by
 obtain⟨Z',v',nx,w',g1,g2,g3,g4,g5⟩:=h
 exact⟨Z',v',nx,w',g1,g2,g3,ha _ _ g4,g5⟩
theorem B5i(hs:Sim A Z B w.heap){t:TypeId}{x i v:AV}{x' i':Value}(h:A1j P B t x i=some (true,v))(hx:VR Z x x')(hi:VR Z i i'):Pure P w Z (Instr.indexAt t x' i') v:=by
 unfold A1j at h
 split at h
 ·rename_i n e b o k ix hu hsn
  split at h
  ·rename_i pre k m f ty hb
   split at h
   ·rename_i hc
    obtain⟨hsz,rfl⟩:=hc
    simp only[sI,pI,dQ] at h
    obtain⟨hin,rfl⟩:=h
    obtain⟨kk,hkk⟩:∃ kk,Q9 i=some (kk,ix):=⟨_,hsn⟩
    have hi2:VR Z (.int kk ix) i':=by simp only[VR]; exact L6 hkk hi
    obtain⟨y,p1,p2⟩:=Z7 (P:=P) (w:=w) (t:=t) (v:=.ptr (some (b,pre.length+ix.toNat*1))) (by simp only[Y6,hu,hsz,if_pos hin]) hx hi2
    refine⟨y,p1,?_⟩
    simp only[VR] at p2 ⊢
    obtain⟨l,hl,rfl⟩:=p2
    obtain⟨_,hes,_⟩:=hs.obj b _ l hb hl
    exact⟨l,hl,by rw[hes,Nat.add_comm pre.length]⟩
   ·cases h
  ·cases h
 ·rename_i e b s n k ix hu hsn
  split at h
  ·rename_i pre k m f ty hb
   split at h
   ·rename_i hsz
    simp only[sI,pI,bA,dQ] at h
    obtain⟨⟨hin,hps⟩,rfl⟩:=h
    obtain⟨kk,hkk⟩:∃ kk,Q9 i=some (kk,ix):=⟨_,hsn⟩
    have hi2:VR Z (.int kk ix) i':=by simp only[VR]; exact L6 hkk hi
    obtain⟨y,p1,p2⟩:=Z7 (P:=P) (w:=w) (t:=t) (v:=.ptr (some (b,s+ix.toNat*1))) (by simp only[Y6,hu,hsz,if_pos hin]) (G1k.1 hx) hi2
    refine⟨y,p1,?_⟩
    simp only[VR] at p2 ⊢
    obtain⟨l,hl,rfl⟩:=p2
    obtain⟨_,hes,_⟩:=hs.obj b _ l hb hl
    exact⟨l,hl,by rw[hes]; simp only[Nat.mul_one]; congr 4; omega⟩
   ·cases h
  ·cases h
 ·cases h
theorem A1d{y:Nat}{a:AV}{n:Nat}(h:A8l y a=some (true,n)):A3b y (cnI a)=some n:=by
 cases a<;>simp[A8l] at h<;>simp[A3b,cnI,h.1,h.2]
theorem B5p{len:Nat}{lo hi:Option AV}{l h:Nat}(hs:A2s len lo hi=some (true,l,h)):Z6 len len (lo.map cnI) (hi.map cnI) none=some (l,h,len):=by
 unfold A2s at hs
 split at hs
 ·rename_i c h' hh
  split at hs
  ·rename_i c' l' hl
   simp only[sI,pI,bA] at hs
   obtain⟨⟨rfl,rfl⟩,rfl,rfl⟩:=hs
   cases hi with
   | none =>
    simp only[sI,pI,true_and] at hh
    subst hh
    cases lo with
    | none=>simp at hl; simp[Z6,hl]
    | some a=>simp[Z6,A1d hl]
   | some c =>
    cases lo with
    | none=>simp at hl; simp[Z6,A1d hh,hl]
    | some a=>simp[Z6,A1d hh,A1d hl]
  ·cases hs
 ·cases hs
theorem F3m{a:AV}{x:Value}(h:VR Z a x):VR Z (Go.Ad.cnI a) x:=by
 cases a<;>simp only[Go.Ad.cnI]<;>first | exact h | (simp only[VR] at h ⊢; first | exact h | exact h.1)
theorem VRo.cnI{o:Option AV}{o':Option Value}(h:VRo Z o o'):VRo Z (o.map Go.Ad.cnI) o':=by
 cases o<;>cases o'<;>simp only[VRo,Option.map_none,oS] at h ⊢
 exact F3m h
end
end Go.Ad
