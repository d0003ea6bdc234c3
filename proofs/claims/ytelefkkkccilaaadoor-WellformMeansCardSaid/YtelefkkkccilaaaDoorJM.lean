import Derived.Test.YtelefkkkccilaaaDoorXn
import Derived.Test.YtelefkkkccilaaaDoorLB
set_option linter.unusedVariables false
set_option linter.unusedSimpArgs false
set_option linter.all false
namespace Go.Proofs.YtelefkkkccilaaaDoor
open Go.RowKit
set_option maxRecDepth 100000
def SpP (n:Nat) (w:World) (e:Ending) (w':World):Prop:=∃ (l':List UInt8) (a:Option Addr) (c:Nat),e=.returned (.slice a l'.length c)∧BR (fun q=>w.heap.size≤q) w' a l'.length l'∧l'.length≤c∧c≤9223372036854775807∧l'.length≤n + 1∧Below w.heap.size w w'
theorem SpP.of {n:Nat} {w W:World} {a:Option Addr} {m c:Nat} {l':List UInt8} (h:OwnB W w.heap.size (.slice a m c) l') (hb:Below w.heap.size w W) (hl:l'.length≤n + 1):SpP n w (.returned (.slice a m c)) W:=by
 obtain ⟨a',c',e,h1,h2,h3⟩:=h.br;cases e
 exact ⟨l',a,c,rfl,h1,h2,h3,hl,hb⟩
theorem OwnB.cut {w:World} {base g n cap:Nat} {l:List UInt8} (h:OwnB w base (.slice (some ⟨g,0,none⟩) n cap) l) {k:Nat} (hk:k≤n):OwnB w base (.slice (some ⟨g,0,none⟩) k cap) (l.take k):=by
 have hl:=h.1;obtain ⟨a',c',e,_⟩:=h.br;have hnl:n=l.length:=by cases e;rfl
 rcases h.2 with ⟨e,_⟩ | ⟨g',cap',cur,e,hb,hh,hn,hc,hs,ht⟩
 ·cases e
 ·cases e
  refine ⟨by simp,.inr ⟨g,cap,cur,by rw [List.length_take,Nat.min_eq_left (by omega)],hb,hh,by rw [List.length_take];omega,hc,hs,?_⟩⟩;rw [List.length_take,Nat.min_eq_left (by omega)];have:=congrArg (List.take k) ht;simp only [List.take_take,List.map_take,Nat.mul_one] at this ⊢;rw [Nat.min_eq_left (by omega)] at this;exact this
theorem OwnB.set {w:World} {base g n cap k:Nat} {l:List UInt8} (h:OwnB w base (.slice (some ⟨g,0,none⟩) n cap) l) (hk:k < n) (cb:UInt8):OwnB (w.setCell ⟨g,k,none⟩ (bv cb)) base (.slice (some ⟨g,0,none⟩) n cap) (l.set k cb):=by
 have hl:=h.1;obtain ⟨a',c',e,_⟩:=h.br;have hnl:n=l.length:=by cases e;rfl
 rcases h.2 with ⟨e,_⟩ | ⟨g',cap',cur,e,hb,hh,hn,hc,hs,ht⟩
 ·cases e
 ·cases e
  refine ⟨by simp,.inr ⟨g,cap,_,by rw [List.length_set],hb,sar hh k (bv cb),by simpa using hn,hc,by simpa using hs,?_⟩⟩;have h1:=congrArg (fun x=>List.set x k (bv cb)) ht;simp only [List.length_set,Nat.mul_one,List.map_set] at h1 ⊢;rw [← h1,Array.toList_setIfInBounds,List.take_set]
theorem BR.tail {ok:Nat→Prop} {w:World} {b n:Nat} {l:List UInt8} (h:BR ok w (some ⟨b,0,none⟩) n l) {k:Nat} (hk:k≤n):BR ok w (some ⟨b,k,none⟩) (n - k) (l.drop k):=by
 obtain ⟨h1,h2,h3⟩:=h;refine ⟨by rw [List.length_drop];omega,by omega,fun i hi=>?_⟩;obtain ⟨b',o',e,hb,hc⟩:=h3 (k + i) (by rw [List.length_drop] at hi;omega);cases e
 refine ⟨b,k,rfl,hb,?_⟩;rw [List.getElem_drop];rw [Nat.zero_add] at hc;exact hc
end Go.Proofs.YtelefkkkccilaaaDoor
