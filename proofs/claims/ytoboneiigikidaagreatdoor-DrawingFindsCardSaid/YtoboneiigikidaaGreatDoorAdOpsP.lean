/- Pointers seen as pointers to anything, bytes seen as a text: what the machine's own functions give. -/
import Derived.Test.YtoboneiigikidaaGreatDoorAdOps1
namespace Go.Ad
section
variable {P:Program} {A:Amb} {Z:Emb} {B:Heap} {w:World}
theorem C0f{c:Nat}{arr:Array Value}{e:TypeId}{fz:Nat×Nat}(h:w.heap[c]?=some (.cells arr e fz)):w.shape? c=some (e,arr.size):=by
 simp[World.shape?,h]
theorem C0b{a:Addr}{arr:Array Value}{e:TypeId}{fz:Nat×Nat}(h:w.heap[a.block]?=some (.cells arr e fz)):(Conv.seenAt a).run P w=.ok a w:=by
 simp[Conv.seenAt,viewAt,C0f h]
theorem C8t{src dst t:TypeId}{c off:Nat}{arr:Array Value}{e:TypeId}{fz:Nat×Nat}{n:Nat}(h1:P.underlying src=some (.pointer t))(h2:P.underlying dst=some .unsafePointer)(hn:size? P t=some (n+1))(h:w.heap[c]?=some (.cells arr e fz))(ho:off<arr.size) :
  (convert src dst (.pointer (some ⟨c,off,none⟩))).run P w=.ok (.pointer (some ⟨c,off,none⟩)) w:=by
 have hs:=C0b (P:=P) (a:=⟨c,off,none⟩) h
 simp[convert,und h1,und h2,Conv.unsafePointer,hs,cellsIn,C0f h,A2e hn,Nat.not_le.2 ho]
theorem A7b{c off k:Nat}{t:TypeId}{arr:Array Value}{e:TypeId}{fz:Nat×Nat}(h:w.heap[c]?=some (.cells arr e fz)) :
  (variablesAt ⟨c,off,none⟩ t k).run P w=.ok (liesAt P P.depth e (arr.size / P.cellsOf e) off t k) w:=by
 simp[variablesAt,C0f h]
theorem C6t{src dst t:TypeId}{c off:Nat}{arr:Array Value}{e:TypeId}{fz:Nat×Nat}(h1:P.underlying src=some .unsafePointer)(h2:P.underlying dst=some (.pointer t)){n:Nat}(hn:size? P t=some n)(h:w.heap[c]?=some (.cells arr e fz))(hl:liesAt P P.depth e (arr.size / P.cellsOf e) off t 1=true) :
  (convert src dst (.pointer (some ⟨c,off,none⟩))).run P w=.ok (.pointer (some ⟨c,off,none⟩)) w:=by
 have hs:=C0b (P:=P) (a:=⟨c,off,none⟩) h
 have hv:=A7b (P:=P) (off:=off) (t:=t) (k:=1) h
 rw[hl] at hv
 simp[convert,und h1,und h2,Conv.unsafePointer,hs,A2e hn,hv]
theorem A9p:∀ (ns:List Int) (c off:Nat) (acc:ByteArray) {arr:Array Value} {e:TypeId} {fz:Nat×Nat},w.heap[c]?=some (.cells arr e fz) ->
  (∀ (i:Nat) n,ns[i]?=some n->arr[off+i]?=some (.int .u8 n))->(loadBytes ⟨c,off,none⟩ acc ns.length).run P w=.ok ⟨acc.data++(ns.map fun n=>UInt8.ofNat n.toNat).toArray⟩ w
 | [],c,off,acc,arr,e,fz,h,hg=>by simp[loadBytes]
 | n::ns,c,off,acc,arr,e,fz,h,hg=>by
  have h0:=hg 0 n (by simp)
  have hc:w.cell? ⟨c,off,none⟩=some (.int .u8 n):=by rw[cell_of h]; simpa using h0
  have ih:=A9p ns c (off+1) (acc.push n.toNat.toUInt8) h (fun i m hi=>by
   have:=hg (i+1) m (by simpa using hi)
   rw[show off+(i+1)=off+1+i by omega] at this
   exact this)
  simp only[List.length_cons,loadBytes,Sem.run_bind]
  have hl:(load ⟨c,off,none⟩).run P w=.ok (.int .u8 n) w:=by simp[load,Sem.run,hc]
  rw[hl]
  simp only[rK]
  have ea:(⟨c,off,none⟩:Addr).add 1=⟨c,off+1,none⟩:=by simp[Addr.add]
  rw[ea,ih]
  congr 2
  simp[ByteArray.push]
theorem E8h{e u:TypeId}{count off n:Nat}(hs:P.cellsOf e=1)(hl:sameLayout P P.depth e u=true)(hn:off+n<=count):liesAt P P.depth e count off u n=true:=by
 have hd:∃ d,P.depth=d+1:=⟨2*(P.types.size+Made.depth)+1,by simp[Program.depth]⟩
 obtain⟨d,hd⟩:=hd
 have:rowAt P (sameLayout P P.depth · u) P.depth e count off n=true:=by
  rw[hd]
  simp only[rowAt,hs]
  rw[<- hd,hl]
  simp[hn,Nat.mod_one]
 conv=>lhs; unfold liesAt
 rw[hd]
 simp only
 rw[<- hd,this]
 simp
end
end Go.Ad
