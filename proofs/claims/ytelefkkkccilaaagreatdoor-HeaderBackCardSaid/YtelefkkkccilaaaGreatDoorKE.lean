/- Floats that the widening meets. -/
import Derived.Test.YtelefkkkccilaaaGreatDoorLK
import Derived.Test.YtelefkkkccilaaaGreatDoorKD
set_option linter.all false
namespace Go.Proofs.YtelefkkkccilaaaGreatDoor
open Go.RowKit
set_option maxRecDepth 100000
/-! ### A positive normal number against the marks. -/
/-! ### math.Ldexp at positive normal numbers. -/
structure Nrm (E F X:Nat):Prop where
 e1:1≤E
 e2:E < 2047
 f:F < 4503599627370496
 x:X=E * 4503599627370496 + F
theorem Nrm.lt {E F X:Nat} (h:Nrm E F X):X < 9223372036854775808:=by have:=h.e2;have:=h.f;have:=h.x;omega
def NoItem (er:Nat) (e:Ending):Prop:=e=.returned (.tuple #[.agg #[.int .i64 0,.int .u64 0,.slice none 0 0,.slice none 0 0],.int .i64 (er:Int)])
theorem item_zero (d:Nat) (s:List UInt8):It.item d 0 s=.err 8:=by cases d <;> rfl
theorem item_hd {d f er:Nat} {s:List UInt8} (h:It.readHead s=.err er):It.item d (f + 1) s=.err er:=by
 cases d <;> (unfold It.item It.step;simp only [h])
def ofO (r:Option It) (f:Nat) (s:List UInt8):It.PR It:=match r with
 | some x=>.ok x f s
 | .none=>.err 4
namespace It
theorem item_int {d f c n:Nat} {s r:List UInt8} (h:readHead s=.ok c n r) (hk:c / 32≤1):item d (f + 1) s=.ok (mk (c / 32:Nat) n [] []) f r:=by
 cases d <;> (unfold item step;simp only [h];rw [if_pos hk])
theorem item_short {d f c n:Nat} {s r:List UInt8} (h:readHead s=.ok c n r) (h1:¬ c / 32≤1) (h2:c / 32≤3) (h3:r.length < n):item d (f + 1) s=.err 2:=by
 cases d <;> (unfold item step;simp only [h];rw [if_neg h1,if_pos h2,if_pos h3])
theorem item_bad {d f c n:Nat} {s r:List UInt8} (h:readHead s=.ok c n r) (h2:c / 32=3) (h3:¬ r.length < n) (h4:Lib.validD (r.take n)=false):item d (f + 1) s=.err 5:=by
 cases d <;> (unfold item step;simp only [h];rw [if_neg (by omega),if_pos (by omega),if_neg h3,if_pos ⟨h2,h4⟩])
theorem item_by {d f c n:Nat} {s r:List UInt8} (h:readHead s=.ok c n r) (h1:¬ c / 32≤1) (h2:c / 32≤3) (h3:¬ r.length < n) (h4:c / 32=3→Lib.validD (r.take n)=true):item d (f + 1) s=.ok (mk (c / 32:Nat) 0 (r.take n) []) f (r.drop n):=by
 cases d <;> (unfold item step;simp only [h];rw [if_neg h1,if_pos h2,if_neg h3,if_neg (by rintro ⟨a,b⟩;rw [h4 a] at b;cases b)])
theorem item_seven {d f c n:Nat} {s r:List UInt8} (h:readHead s=.ok c n r) (h2:c / 32=7):item d (f + 1) s=ofO (seven (c % 32) n) f r:=by
 cases d <;> (unfold item step;simp only [h];rw [if_neg (by omega),if_neg (by omega),if_pos h2];unfold ofO;cases seven (c % 32) n <;> rfl)
theorem item_lv {f c n:Nat} {s r:List UInt8} (h:readHead s=.ok c n r) (h1:¬ c / 32≤3) (h2:c / 32≠7):item 0 (f + 1) s=.err 8:=by
 unfold item step;simp only [h];rw [if_neg (by omega),if_neg h1,if_neg h2]
end It
theorem unbe_take_lt (k:Nat) (s:List UInt8):It.unbe (s.take k) < 256 ^ k:=Nat.lt_of_lt_of_le (It.unbe_lt _) (Nat.pow_le_pow_right (by omega) (by rw [List.length_take];omega))
structure LS (P c b o X B:Nat) (K:Int) (l:List UInt8) (w:World) (j f:Nat) (es:List (It × Ad)) (v:Value) (W:World):Prop where
 at_:AtP P j c b o l (256 - (f:Int)) W
 few:f + es.length≤256
 but:But P w W
 blk:W.heap[X]?=some (.cells #[.int .i64 K,.int .u64 0,.slice none 0 0,v] 26 (0,0))
 out:OutI W (X + 1) (fun q=>X + 1≤q) v es
 res:W.heap[B]?=some o4z
theorem BR.sep {P:Nat} {w W:World} {a:Option Addr} {n:Nat} {l:List UInt8} (h:BR (fun q=>q≠P) w a n l) (hB:But P w W):BR (fun q=>q≠P) W a n l:=h.keep fun q hq hl=>⟨hB.block q hl hq,hq⟩
theorem bt {P:Nat} {w u v:World} (h:But P w u) (k:But P u v):But P w v:=⟨k.os.trans h.os,k.tape.trans h.tape,k.output.trans h.output,Nat.le_trans h.size k.size,fun j hj hne=>(k.block j (Nat.lt_of_lt_of_le hj h.size) hne).trans (h.block j hj hne)⟩
theorem bw {P n:Nat} {w u v:World} (h:But P w u) (k:Below n u v) (hn:w.heap.size≤n):But P w v:=⟨k.os.trans h.os,k.tape.trans h.tape,k.output.trans h.output,Nat.le_trans h.size k.size,fun j hj hne=>(k.block j (Nat.lt_of_lt_of_le hj hn)).trans (h.block j hj hne)⟩
theorem LS.push {P c b o X B:Nat} {K:Int} {l:List UInt8} {w:World} {j f:Nat} {es:List (It × Ad)} {v:Value} {W W5 W6:World} (h:LS P c b o X B K l w j f es v W) (hPX:P < X) (hBX:B < X) (hwB:w.heap.size≤B) (hPB:P≠B) {f1 j1:Nat} (hf:f1 + 1≤f) {y:It} {A:Ad} (h5:But P W W5) (hA:AtP P j1 c b o l (256 - (f1:Int)) W5) (h6:Below W5.heap.size W5 W6) (hI:IR (fun q=>W.heap.size≤q) W6 y A):
 ∃ v' W7,(Builtin.append_ #[24,24] 24 #[v,.slice (some ⟨W6.heap.size,0,none⟩) 1 1]).run Tryz.prog (W6.alloc (o4 y A))=.ok v' W7∧LS P c b o X B K l w j1 f1 (es ++ [(y,A)]) v' (W7.setCell ⟨X,3,none⟩ v')∧(∃ v9,W7.heap[X]?=some (.cells #[.int .i64 K,.int .u64 0,.slice none 0 0,v9] 26 (0,0))):=by
 have hXl:=lb h.blk;have hBl:=lb h.res;have h56:But P W W6:=h5.trans (bob h6);obtain ⟨v',W7,hrun,hO,hB⟩:=gen_push h.out (by omega) (show P < X + 1 by omega) h56 hI 1 (by have:=h.few;omega);have hs5:=h5.size;have hs6:=h6.size;have hX7:W7.heap[X]?=some (.cells #[.int .i64 K,.int .u64 0,.slice none 0 0,v] 26 (0,0)):=(hB.block X (by omega)).trans ((h56.block X hXl (by omega)).trans h.blk);have hB7:W7.heap[B]?=_:=(hB.block B (by omega)).trans ((h56.block B hBl (by omega)).trans h.res);have hne:∀ q,q≠X→(W7.setCell ⟨X,3,none⟩ v').heap[q]?=W7.heap[q]?:=fun q hq=>Below.heap_setCell _ _ _ _ hq
 refine ⟨v',W7,hrun,⟨⟨?_,hA.2⟩,by simp;have:=h.few;omega,?_,?_,?_,?_⟩,v,hX7⟩
 ·rw [hne P (by omega),hB.block P (by omega),h6.block P (lb hA.1)];exact hA.1
 ·have h7:=bw (bt h.but h56) hB (by omega)
  exact ⟨h7.os,h7.tape,h7.output,by have:=h7.size;simpa [World.setCell] using this,fun q hq hqP=>(hne q (by omega)).trans (h7.block q hq hqP)⟩
 ·have:=sar hX7 3 v'
  simpa using this
 ·exact hO.keep (fun g hg=>hne g (by have:=(olt hO.row hg).2.1;omega)) fun q hq _=>hne q (by omega)
 ·exact (hne B (by omega)).trans hB7
theorem BR.cut {ok:Nat→Prop} {w:World} {b o:Nat} {l:List UInt8} (h:BR ok w (some ⟨b,o,none⟩) l.length l) {q z:Nat} (hqz:q + z≤l.length):BR ok w (some ⟨b,o + q,none⟩) z ((l.drop q).take z):=by
 obtain ⟨h1,h2,h3⟩:=h;refine ⟨by rw [List.length_take,List.length_drop];omega,by omega,fun i hi=>?_⟩;have hi':i < z:=by rw [List.length_take] at hi;omega
 obtain ⟨b',o',e,hb,hc⟩:=h3 (q + i) (by omega);cases e
 refine ⟨b,o + q,rfl,hb,?_⟩;rw [List.getElem_take,List.getElem_drop,Nat.add_assoc];exact hc
theorem key_at {d f f1 j j1:Nat} {l:List UInt8} {y:It} (h:It.item d f (l.drop j)=.ok y f1 (l.drop j1)) (hj1:j1≤l.length):j < j1∧f1 + 1≤f∧(l.drop j).take ((l.drop j).length - (l.drop j1).length)=(l.drop j).take (j1 - j)∧(l.drop j).take (j1 - j)=It.enc y:=by
 obtain ⟨h1,h2,h3,h4,_⟩:=It.item_takes h;rw [List.length_drop,List.length_drop] at h3 h4 ⊢;have e:l.length - j - (l.length - j1)=j1 - j:=by omega
 rw [e] at h4 ⊢;exact ⟨by omega,h2,rfl,h4⟩
namespace It
theorem item_list {d f c n:Nat} {s r:List UInt8} (h:readHead s=.ok c n r) (hk:c / 32=4):item (d + 1) (f + 1) s=(seqN (item d) n f r).map (mk 4 0 [] ·):=by
 conv=>lhs;unfold item step
 simp only [h];rw [if_neg (by omega),if_neg (by omega),if_neg (by omega),if_neg (by omega),if_neg (by omega)]
theorem item_map {d f c n:Nat} {s r:List UInt8} (h:readHead s=.ok c n r) (hk:c / 32=5):item (d + 1) (f + 1) s=(prsN (item d) .none n f r).map (mk 5 0 [] ·):=by
 conv=>lhs;unfold item step
 simp only [h];rw [if_neg (by omega),if_neg (by omega),if_neg (by omega),if_pos hk]
theorem item_tag {d f c n:Nat} {s r:List UInt8} (h:readHead s=.ok c n r) (hk:c / 32=6):item (d + 1) (f + 1) s=(item d f r).map fun x=>mk 6 n [] [x]:=by
 conv=>lhs;unfold item step
 simp only [h];rw [if_neg (by omega),if_neg (by omega),if_neg (by omega),if_neg (by omega),if_pos hk]
end It
def PrefP (l:List UInt8) (r:It.PR It) (w:World) (e:Ending) (w':World):Prop:=Below w.heap.size w w'∧match r with
 | .err er=>er≠0∧e=.returned (.tuple #[.agg #[.int .i64 0,.int .u64 0,.slice none 0 0,.slice none 0 0],.int .i64 0,.int .i64 (er:Int)])
 | .ok x _ s=>∃ (A:Ad) (j:Nat),e=.returned (.tuple #[.agg #[.int .i64 x.kind,.int .u64 (x.num:Int),.slice A.ab A.nb A.cb,.slice A.ai A.ni A.ci],.int .i64 (j:Int),.int .i64 0])∧IR (fun q=>w.heap.size≤q) w' x A∧j≤l.length∧s=l.drop j
def decOf (r:It.PR It):It.DR:=match r with
 | .err e=>.err e
 | .ok x _ s=>if s=[] then .ok x else .err 9
def DecP (r:It.DR) (w:World) (e:Ending) (w':World):Prop:=Below w.heap.size w w'∧match r with
 | .err er=>er≠0∧e=.returned (.tuple #[.agg #[.int .i64 0,.int .u64 0,.slice none 0 0,.slice none 0 0],.int .i64 (er:Int)])
 | .ok x=>∃ A:Ad,e=.returned (.tuple #[.agg #[.int .i64 x.kind,.int .u64 (x.num:Int),.slice A.ab A.nb A.cb,.slice A.ai A.ni A.ci],.int .i64 0])∧IR (fun q=>w.heap.size≤q) w' x A
