/- Joined texts. -/
import Derived.Shelf.SlSortCmp.WholeK
import Derived.Test.YtelefkkkccilaaaDoorRows
import Derived.Test.YtelefkkkccilaaaDoorJH
import Derived.Test.YtelefkkkccilaaaDoorJE
import Derived.Test.YtelefkkkccilaaaDoorJB
import Derived.Shelf.SlSortCmp.NoneTotal
set_option linter.unusedVariables false
set_option linter.unusedSimpArgs false
namespace Go.Proofs.YtelefkkkccilaaaDoor
open Go.RowKit Go.Shelf
set_option maxRecDepth 100000
def tryzSf_ren:Go.Shelf.Ren:=⟨fun | 6=>50 | 15=>82 | 14=>81 | 28=>115 | 29=>116 | 20=>107 | 21=>108 | 22=>109 | 23=>110 | 24=>111 | 25=>112 | 26=>113 | 27=>114 | 46=>137 | 47=>138 | 48=>139 | 49=>140 | 50=>141 | 57=>149 | n=>n,fun | 22=>92 | 24=>94 | 25=>96 | 3=>3 | 39=>47 | 0=>0 | 53=>150 | 55=>28 | 4=>4 | 46=>174 | 45=>173 | 50=>178 | 5=>5 | 9=>9 | 66=>194 | 70=>197 | 76=>202 | 77=>203 | n=>n,fun n=>n⟩
theorem tryzSf:Go.Proofs.SlLaysF0.n6 Tryd.prog tryzSf_ren where
 mixed:=by kernel_rfl
 f6:=⟨"slices.SortFunc[[]coresec/wellform.pair,coresec/wellform.pair]",by decide,Tryd.func50.trans (congrArg some (by kernel_rfl))⟩
 f14:=⟨"slices.pdqsortCmpFunc[coresec/wellform.pair]",by decide,Tryd.func81.trans (congrArg some (by kernel_rfl))⟩
 f15:=Tryd.func82.trans (congrArg some (by kernel_rfl))
 f20:=⟨"slices.insertionSortCmpFunc[coresec/wellform.pair]",by decide,Tryd.func107.trans (congrArg some (by kernel_rfl))⟩
 f21:=⟨"slices.heapSortCmpFunc[coresec/wellform.pair]",by decide,Tryd.func108.trans (congrArg some (by kernel_rfl))⟩
 f22:=⟨"slices.breakPatternsCmpFunc[coresec/wellform.pair]",by decide,Tryd.func109.trans (congrArg some (by kernel_rfl))⟩
 f23:=⟨"slices.choosePivotCmpFunc[coresec/wellform.pair]",by decide,Tryd.func110.trans (congrArg some (by kernel_rfl))⟩
 f24:=⟨"slices.reverseRangeCmpFunc[coresec/wellform.pair]",by decide,Tryd.func111.trans (congrArg some (by kernel_rfl))⟩
 f25:=⟨"slices.partialInsertionSortCmpFunc[coresec/wellform.pair]",by decide,Tryd.func112.trans (congrArg some (by kernel_rfl))⟩
 f26:=⟨"slices.partitionEqualCmpFunc[coresec/wellform.pair]",by decide,Tryd.func113.trans (congrArg some (by kernel_rfl))⟩
 f27:=⟨"slices.partitionCmpFunc[coresec/wellform.pair]",by decide,Tryd.func114.trans (congrArg some (by kernel_rfl))⟩
 f28:=Tryd.func115.trans (congrArg some (by kernel_rfl))
 f29:=Tryd.func116.trans (congrArg some (by kernel_rfl))
 f46:=⟨"slices.siftDownCmpFunc[coresec/wellform.pair]",by decide,Tryd.func137.trans (congrArg some (by kernel_rfl))⟩
 f47:=Tryd.func138.trans (congrArg some (by kernel_rfl))
 f48:=Tryd.func139.trans (congrArg some (by kernel_rfl))
 f49:=⟨"slices.medianAdjacentCmpFunc[coresec/wellform.pair]",by decide,Tryd.func140.trans (congrArg some (by kernel_rfl))⟩
 f50:=⟨"slices.medianCmpFunc[coresec/wellform.pair]",by decide,Tryd.func141.trans (congrArg some (by kernel_rfl))⟩
 f57:=⟨"slices.order2CmpFunc[coresec/wellform.pair]",by decide,Tryd.func149.trans (congrArg some (by kernel_rfl))⟩
 t0:=Tryd.underlying0
 a0:=Tryd.isAgg0
 z0:=Tryd.sizeOf0
 v0:=Tryd.zeroValue0
 t3:=Tryd.underlying3
 a3:=Tryd.isAgg3
 z3:=Tryd.sizeOf3
 v3:=Tryd.zeroValue3
 t4:=Tryd.underlying4
 a4:=Tryd.isAgg4
 z4:=Tryd.sizeOf4
 v4:=Tryd.zeroValue4
 t5:=Tryd.underlying5
 a5:=Tryd.isAgg5
 z5:=Tryd.sizeOf5
 v5:=Tryd.zeroValue5
 t9:=Tryd.underlying9
 a9:=Tryd.isAgg9
 z9:=Tryd.sizeOf9
 v9:=Tryd.zeroValue9
 t22:=Tryd.underlying92
 a22:=Tryd.isAgg92
 z22:=Tryd.sizeOf92
 v22:=Tryd.zeroValue92
 t25:=Tryd.underlying96
 a25:=Tryd.isAgg96
 z25:=Tryd.sizeOf96
 v25:=Tryd.zeroValue96
 t39:=Tryd.underlying47
 a39:=Tryd.isAgg47
 z39:=Tryd.sizeOf47
 v39:=Tryd.zeroValue47
 t45:=Tryd.underlying173
 a45:=Tryd.isAgg173
 z45:=Tryd.sizeOf173
 v45:=Tryd.zeroValue173
 t46:=Tryd.underlying174
 a46:=Tryd.isAgg174
 z46:=Tryd.sizeOf174
 v46:=Tryd.zeroValue174
 t50:=Tryd.underlying178
 a50:=Tryd.isAgg178
 z50:=Tryd.sizeOf178
 v50:=Tryd.zeroValue178
 t53:=Tryd.underlying150
 a53:=Tryd.isAgg150
 z53:=Tryd.sizeOf150
 v53:=Tryd.zeroValue150
 t55:=Tryd.underlying28
 a55:=Tryd.isAgg28
 z55:=Tryd.sizeOf28
 v55:=Tryd.zeroValue28
 t66:=Tryd.underlying194
 a66:=Tryd.isAgg194
 z66:=Tryd.sizeOf194
 v66:=Tryd.zeroValue194
 t70:=Tryd.underlying197
 a70:=Tryd.isAgg197
 z70:=Tryd.sizeOf197
 v70:=Tryd.zeroValue197
 t76:=Tryd.underlying202
 a76:=Tryd.isAgg202
 z76:=Tryd.sizeOf202
 v76:=Tryd.zeroValue202
 t77:=Tryd.underlying203
 a77:=Tryd.isAgg203
 z77:=Tryd.sizeOf203
 v77:=Tryd.zeroValue203
end Go.Proofs.YtelefkkkccilaaaDoor
namespace Go.Proofs.YtelefkkkccilaaaDoor
open Am Go.RowKit
set_option maxRecDepth 100000
structure Qd where
 k:Int
 n:Int
 A:Ad
def qv (q:Qd):List Value:=[.int .i64 q.k,.int .u64 q.n,.slice q.A.ab q.A.nb q.A.cb,.slice q.A.ai q.A.ni q.A.ci]
structure KX where
 kb:List UInt8
 ka:Option Addr
 kc:Nat
 q1:Qd
 q2:Qd
def KX.cells (e:KX):List Value:=.slice e.ka e.kb.length e.kc :: (qv e.q1 ++ qv e.q2)
def KX.none:KX:=⟨[],.none,0,⟨0,0,⟨.none,0,0,.none,0,0⟩⟩,⟨0,0,⟨.none,0,0,.none,0,0⟩⟩⟩
def keyX (L:List KX) (i:Nat):List UInt8:=((L[i]?).getD KX.none).kb
def encX (L:List KX) (i:Nat):List Value:=((L[i]?).getD KX.none).cells
def cfX (L:List KX) (i j:Nat):Int:=It.cmpB (keyX L i) (keyX L j)
theorem swo_X (L:List KX):Go.Sort.SWO (ltOf (cfX L)):=by
 refine ⟨fun x=>?_,fun x y z h1 h2=>?_,fun x y z h1 h2=>?_⟩
 ·unfold ltOf cfX;rw [It.cmpB_self];simp
 ·exact decide_eq_true (It.cmpB_trans (of_decide_eq_true h1) (of_decide_eq_true h2))
 ·have h1:=of_decide_eq_false h1
  have h2:=of_decide_eq_false h2;unfold cfX at h1 h2;have s1:=It.cmpB_swap (keyX L x) (keyX L y);have s2:=It.cmpB_swap (keyX L y) (keyX L z);have s3:=It.cmpB_swap (keyX L x) (keyX L z);have:=It.cmp_le_trans (a:=keyX L z) (b:=keyX L y) (c:=keyX L x) (by omega) (by omega);refine decide_eq_false ?_;unfold cfX;omega
theorem KX.cells_len (e:KX):e.cells.length=9:=rfl
theorem encX_len (L:List KX) (i:Nat):(encX L i).length=9:=rfl
theorem encX_one (L:List KX) (i:Nat):∀ v ∈ encX L i,v.oneCell'=true:=fun v hv=>by
 unfold encX KX.cells qv at hv;simp at hv;rcases hv with rfl | rfl | rfl | rfl | rfl | rfl | rfl | rfl | rfl <;> rfl
theorem keyX_br {L:List KX} {ok:Nat→Prop} {w:World} (h:∀ e ∈ L,BR ok w e.ka e.kb.length e.kb) (i:Nat):BR ok w ((L[i]?).getD KX.none).ka (keyX L i).length (keyX L i):=by
 unfold keyX;cases hi:L[i]? with
 | none=>exact ⟨rfl,by decide,fun i h=>by simp [KX.none] at h⟩
 | some e=>exact h e (List.mem_of_getElem? hi)
theorem flatX_len (L:List KX):(L.flatMap KX.cells).length=L.length * 9:=by
 induction L with
 | nil=>rfl
 | cons e L ih=>simp only [List.flatMap_cons,List.length_append,ih,List.length_cons,KX.cells_len];omega
theorem flatX_get:∀ (L:List KX) (t:Nat),t < L.length * 9→(L.flatMap KX.cells)[t]?=(((L[t / 9]?).getD KX.none).cells)[t % 9]?
 | [],t,h=>by simp at h
 | e :: L,t,h=>by
   rw [List.flatMap_cons];rcases Nat.lt_or_ge t 9 with h9 | h9
   ·rw [List.getElem?_append_left (by rw [KX.cells_len];exact h9),Nat.div_eq_of_lt h9,Nat.mod_eq_of_lt h9];rfl
   ·rw [List.getElem?_append_right (by rw [KX.cells_len];exact h9),KX.cells_len,flatX_get L (t - 9) (by simp only [List.length_cons] at h;omega)]
    have e1:t / 9=(t - 9) / 9 + 1:=by omega
    have e2:t % 9=(t - 9) % 9:=by omega
    rw [e1,e2];rfl
def rowX (L:List KX) (d:Array Nat):List KX:=d.toList.map fun i=>(L[i]?).getD KX.none
theorem rowX_range (L:List KX):(List.range L.length).map (fun i=>(L[i]?).getD KX.none)=L:=by
 apply List.ext_getElem?
 intro i;rcases Nat.lt_or_ge i L.length with h | h
 ·simp [h]
 ·simp [h,List.getElem?_eq_none h]
theorem rowX_perm {L:List KX} {d:Array Nat} (h:Go.Sort.PermIn 0 L.length (Array.range L.length) d):(rowX L d).Perm L:=by
 obtain ⟨h1,_,h3⟩:=h;have hs:d.size=L.length:=by simpa using h1
 have e1:d.extract 0 L.length=d:=by rw [← hs];simp
 have e2:(Array.range L.length).extract 0 L.length=Array.range L.length:=by simp
 rw [e1,e2,Array.toList_range] at h3;have:=h3.map fun i=>(L[i]?).getD KX.none
 rw [rowX_range] at this;exact this
theorem rowX_sorted {L:List KX} {d:Array Nat} (hs:d.size=L.length) (h:Go.Sort.SortedIn (ltOf (cfX L)) 0 L.length d):(rowX L d).Pairwise fun a b=>It.cmpB a.kb b.kb≤0:=by
 rw [List.pairwise_iff_getElem];intro i j hi hj hij;have hi':i < d.size:=by simpa [rowX] using hi
 have hj':j < d.size:=by simpa [rowX] using hj
 have:=h i j (Nat.zero_le _) hij (by omega);rw [getElem!_pos d i hi',getElem!_pos d j hj'] at this;have:=of_decide_eq_false this;unfold cfX at this;have s:=It.cmpB_swap (keyX L d[i]) (keyX L d[j]);have e:∀ (k:Nat) (hk:k < d.size) (hk':k < (rowX L d).length),(rowX L d)[k].kb=keyX L d[k]:=fun k hk hk'=>by simp [rowX,keyX]
 rw [e i hi' hi,e j hj' hj];omega
theorem rowX_get (L:List KX) (d:Array Nat) (t:Nat) (h:t < d.size * 9):(Go.Sort.flatK (encX L) 9 d)[t]?=((rowX L d).flatMap KX.cells)[t]?:=by
 have hl:(rowX L d).length=d.size:=by simp [rowX]
 have h9:t / 9 < d.size:=by omega
 rw [flatX_get _ _ (by rw [hl];exact h),getElem?_pos _ t (by simpa using h),← getElem!_pos _ t (by simpa using h),Go.Sort.get_flatK _ _ _ _ h];have e1:(rowX L d)[t / 9]?=some ((L[d[t / 9]]?).getD KX.none):=by simp [rowX,h9]
 rw [e1,getElem!_pos d _ h9];have hlt:t % 9 < (encX L d[t / 9]).length:=by rw [encX_len];omega
 rw [getElem!_pos (encX L d[t / 9]) (t % 9) hlt]
 show some (encX L d[t / 9])[t % 9]=(encX L d[t / 9])[t % 9]?
 rw [List.getElem?_eq_getElem hlt]
set_option maxHeartbeats 4000000 in
theorem clos127 {okA okB:Nat→Prop} {W:World} {x y:List UInt8} {ka kb:Option Addr} (c d:Nat) (k1 n1 k2 n2 l1 m1 l2 m2:Int) (A1 A2 B1 B2:Ad) (hx:BR okA W ka x.length x) (hy:BR okB W kb y.length y):
 Calls Tryd.prog 51 #[.agg #[.slice ka x.length c,.int .i64 k1,.int .u64 n1,.slice A1.ab A1.nb A1.cb,.slice A1.ai A1.ni A1.ci,.int .i64 k2,.int .u64 n2,.slice A2.ab A2.nb A2.cb,.slice A2.ai A2.ni A2.ci],.agg #[.slice kb y.length d,.int .i64 l1,.int .u64 m1,.slice B1.ab B1.nb B1.cb,.slice B1.ai B1.ni B1.ci,.int .i64 l2,.int .u64 m2,.slice B2.ab B2.nb B2.cb,.slice B2.ai B2.ni B2.ci]] W fun e w'=>e=.returned (.int .i64 (It.cmpB x y))∧∃ q os',w'=Go.Sort.grow (W.drewN q) os':=by
 have HC:∀ W',Below W.heap.size W W'→Calls Tryd.prog 52 #[.slice ka x.length c,.slice kb y.length d] W' fun e w'=>e=.returned (.int .i64 (It.cmpB x y))∧W'=w':=fun W' hB=>compare_any (hx.below hB) (hy.below hB) _ rfl
 generalize It.cmpB x y=C at *;generalize x.length=lx at *;generalize y.length=ly at *;clear hx hy;have HP:∀ o1 o2,Below W.heap.size W ((W.alloc o1).alloc o2):=fun o1 o2=>(al W o1).alloc (al W o1).size o2
 go_enter Tryd.func51,Tryd.ntmps51
 go_wp2_with (go_at_call 52;refine (HC _ (HP _ _)).mono ?_;rintro e w' ⟨rfl,rfl⟩)
 go_ret
 exact ⟨rfl,0,_,by rw [Go.Sort.alloc_eq_grow,Go.Sort.alloc_eq_grow,Go.Sort.grow_grow];rfl⟩
open Go.Shelf Go.Lib Go.Sort in
theorem sort_X {L:List KX} {w:World} {p c:Nat} {arr:Array Value} (hg:w.heap[p]?=some (.cells arr 94 (0,0))) (ht:arr.toList.take (L.length * 9)=L.flatMap KX.cells) (hn:L.length * 9≤arr.size) (hsz:L.length≤1000) (hkeys:∀ e ∈ L,BR (fun b=>b≠p) w e.ka e.kb.length e.kb):
 Calls Tryd.prog 50 #[.slice (some ⟨p,0,none⟩) L.length c,.func (.func 51) #[] #[]] w fun e w'=>
  e=.returned (.tuple #[])∧∃ L':List KX,L'.Perm L∧(L'.Pairwise fun a b=>It.cmpB a.kb b.kb≤0)∧(∃ arr':Array Value,w'.heap[p]?=some (.cells arr' 94 (0,0))∧arr'.size=arr.size∧arr'.toList.take (L.length * 9)=L'.flatMap KX.cells)∧w.heap.size≤w'.heap.size∧(∀ b,b < w.heap.size→b≠p→w'.heap[b]?=w.heap[b]?)∧(w'.os=w.os∧w'.tape=w.tape∧w'.output=w.output):=by
 have hgl:=lb hg;have hat:∀ t,t < L.length * 9→arr[t]?=(L.flatMap KX.cells)[t]?:=fun t h=>by
  rw [← ht,List.getElem?_take_of_lt h];simp
 have hrg:∀ t,t < L.length * 9→(Go.Sort.flatK (encX L) 9 (Array.range L.length))[t]?=(L.flatMap KX.cells)[t]?:=fun t h=>by
  rw [rowX_get L _ t (by simpa using h)];have:rowX L (Array.range L.length)=L:=by unfold rowX;rw [Array.toList_range,rowX_range]
  rw [this]
 have hH:Go.Sort.HoldsK (encX L) 9 w p 0 (Array.range L.length):=by
  intro t h;have h:t < L.length * 9:=by simpa using h
  have h1:=hat t h;rw [← hrg t h] at h1;rw [getElem!_pos _ t (by simpa using h)];refine ⟨?_,by simp [World.frozen?,hg]⟩;rw [Nat.zero_add,cr hg,h1,getElem?_pos _ t (by simpa using h)];rfl
 have hcmp:CmpLays Tryd.prog 51 #[] (encX L) 9 (cfX L) p 0 (Array.range L.length).size w:=fun m os dk hs x y=>by
  have hk:∀ i,BR (fun _=>True) (sortWorldK (encX L) 9 w p 0 m dk os) ((L[i]?).getD KX.none).ka (keyX L i).length (keyX L i):=fun i=>by
   refine ⟨rfl,(keyX_br hkeys i).2.1,fun j hj=>?_⟩;obtain ⟨b,o,e,hb,hc⟩:=(keyX_br hkeys i).2.2 j hj;refine ⟨b,o,e,trivial,?_⟩;rw [cell?_sortWorldK_other (encX L) 9 w p 0 m dk os ⟨b,o + j,.none⟩ hb (cell_lt hc)];exact hc
  exact clos127 (x:=keyX L x) (y:=keyX L y) _ _ _ _ _ _ _ _ _ _ _ _ _ _ (hk x) (hk y)
 have hcon:=AnyQ.slices_SortFunc tryzSf 9 Tryd.isAgg94 Tryd.sizeOf94 (encX L) (encX_len L) (encX_one L) (cfX L) (swo_X L) 51 #[] p 0 c (Array.range L.length) w (enters_of Tryd.func51 (by kernel_rfl) rfl) hcmp hH hgl (by simp;omega);rw [show (Array.range L.length).size=L.length by simp] at hcon;refine Calls.mono hcon ?_;rintro e w' ⟨rfl,d',n,os,hP,hS,rfl⟩;have hd:d'.size=L.length:=by simpa using hP.1
 have hbk:∀ k,k < w.heap.size→k≠p→(sortWorldK (encX L) 9 w p 0 n d' os).heap[k]?=w.heap[k]?:=fun k hk hne=>by
  have hne:¬ p=k:=fun e=>hne e.symm
  simp [sortWorldK,Go.Sort.grow,Go.Sort.putRowK,Go.Sort.putRow,Go.Sort.mapBlock,Go.Sort.ahead,Array.getElem?_append_left,hk,Array.getElem?_modify,Array.getElem_modify,hne]
 refine ⟨rfl,rowX L d',rowX_perm hP,rowX_sorted hd hS,⟨Go.Sort.putCells id 0 (Go.Sort.flatK (encX L) 9 d') arr,?_,by simp [Go.Sort.putCells],?_⟩,by simp [sortWorldK,Go.Sort.grow,Go.Sort.putRowK,Go.Sort.putRow,Go.Sort.mapBlock,Go.Sort.ahead],hbk,rfl,rfl,rfl⟩
 ·have:w.heap[p]=.cells arr 94 (0,0):=by rw [getElem?_pos _ p hgl] at hg;exact Option.some.inj hg
  simp [sortWorldK,Go.Sort.grow,Go.Sort.putRowK,Go.Sort.putRow,Go.Sort.mapBlock,Go.Sort.ahead,Array.getElem?_append_left,hgl,Array.getElem?_modify,Array.getElem_modify,this,Go.Sort.onCells]
 ·apply List.ext_getElem?
  intro t;have hrl:(rowX L d').length=L.length:=by simp [rowX,hd]
  rcases Nat.lt_or_ge t (L.length * 9) with hlt | hge
  ·rw [List.getElem?_take_of_lt hlt,← rowX_get L d' t (by omega)]
   have hc:t < arr.size:=by omega
   simp [Go.Sort.putCells,hc,hd,hlt]
  ·rw [List.getElem?_eq_none (by simp;omega),List.getElem?_eq_none (by rw [flatX_len,hrl];exact hge)]
namespace It
mutual
def sv:It→Prop
 | mk k _ _ ks=>(k=5→ks.length % 2=0∧∀ ys,srts ks=some ys→∀ y ∈ ys,y.valid=true)∧ks.length≤1000∧svs ks
def svs:List It→Prop
 | []=>True
 | x :: xs=>sv x∧svs xs
end
theorem svs_in:∀ {l:List It} {i:Nat} (h:i < l.length),svs l→sv l[i]
 | x :: l,0,_,h=>h.1
 | x :: l,i + 1,hi,h=>by simpa using svs_in (i:=i) (by simpa using hi) h.2
theorem srts_split (x:It) (m:List It):∀ l:List It,srts (l ++ x :: m)=(match srts l with
 | Option.none=>Option.none
 | some ys=>match srt x with
   | Option.none=>Option.none
   | some y=>(srts m).map fun zs=>ys ++ y :: zs)
 | []=>by
   rw [List.nil_append,srts,srts];cases srt x with
   | none=>rfl
   | some y=>cases srts m <;> rfl
 | z :: l=>by
   rw [List.cons_append,srts,srts_split x m l,srts];cases srt z with
   | none=>rfl
   | some z'=>
     simp only;cases srts l with
     | none=>rfl
     | some ys=>
       simp only;cases srt x with
       | none=>rfl
       | some y=>
         simp only;cases srts m <;> rfl
theorem srts_snoc (x:It) (l:List It):srts (l ++ [x])=match srts l with
 | Option.none=>Option.none
 | some ys=>(srt x).map fun y=>ys ++ [y]:=by
 rw [srts_split x [] l];cases srts l with
 | none=>rfl
 | some ys=>
   simp only;cases srt x with
   | none=>rfl
   | some y=>rfl
end It
def SoP (Z:Nat→Prop) (w:World) (R:Option It) (vs:List Value) (S:List Nat) (e:Ending) (w':World):Prop:=
 FrS S w w'∧match R with
  | none=>e=.returned (.bool false)
  | some y=>e=.returned (.bool true)∧∃ S':List Nat,S'.Perm S∧TWi Z w' y vs S'
def SoK (m:Nat):Prop:=∀ (x:It),x.nodes≤m→x.sv→x.fits→∀ (Z:Nat→Prop) (w:World) (blk off:Nat) (vs:List Value) (S:List Nat),Env w→TWi Z w x vs S→S.Nodup→(∀ c ∈ S,2≤c)→blk ∉ S→2≤blk→(∀ b,Z b→b < w.heap.size∧b≠blk)→
 (∃ arr:Array Value,∃ cap,w.heap[blk]?=some (.cells arr 31 (0,0))∧arr.size=cap * 4∧off + 4≤arr.size∧(arr.toList.drop off).take 4=vs)→Calls Tryd.prog 24 #[.pointer (some ⟨blk,off,none⟩)] w (SoP Z w x.srt vs S)
abbrev qs (q:Qd):List SV:=[.v (.int .i64 q.k),.v (.int .u64 q.n),.v (.slice q.A.ab q.A.nb q.A.cb),.v (.slice q.A.ai q.A.ni q.A.ci)]
def qL:List Qd→List SV
 | []=>[]
 | q :: l=>qs q ++ qL l
section
variable (l:List Qd) (q:Qd) (n i:Nat)
@[go_sem] theorem qL_nil:qL []=[]:=rfl
theorem qL_cons:qL (q :: l)=qs q ++ qL l:=rfl
@[go_sem] theorem qL_len:(qL l).length=l.length * 4:=by
 induction l with
 | nil=>rfl
 | cons x l ih=>rw [qL_cons,List.length_append,ih];simp;omega
@[go_sem] theorem qL_flat:(qL l).all flat=true:=by
 induction l with
 | nil=>rfl
 | cons y l ih=>rw [qL_cons,List.all_append,ih];rfl
@[go_sem] theorem qL_cv (H):(qL l).map (cv H (n + 1))=qL l:=by
 induction l with
 | nil=>rfl
 | cons y l ih=>rw [qL_cons,List.map_append,ih];rfl
theorem qL_drop (h:i < l.length):(qL l).drop (i * 4)=qs l[i] ++ qL (l.drop (i + 1)):=by
 induction l generalizing i with
 | nil=>simp at h
 | cons y l ih=>
   rw [qL_cons];cases i with
   | zero=>simp
   | succ i=>
     have e:(i + 1) * 4=(qs y).length + i * 4:=by simp;omega
     rw [e,List.drop_append,List.drop_eq_nil_of_le (by simp),List.nil_append];simpa using ih i (by simpa using h)
@[go_sem] theorem qL_sub (h:i < l.length):sub (qL l) i 4=qs l[i]:=by
 unfold sub;rw [qL_drop l i h]
 rfl
theorem qL_val:qL l=(l.flatMap qv).map .v:=by
 induction l with
 | nil=>rfl
 | cons y l ih=>rw [qL_cons,ih,List.flatMap_cons,List.map_append];rfl
theorem qL_ovw (T:List SV) (h:i < l.length):ovw (qL l ++ T) (i * 4) (qs q)=qL (l.set i q) ++ T:=by
 induction l generalizing i with
 | nil=>simp at h
 | cons y l ih=>
   cases i with
   | zero=>simp [ovw,qL_cons]
   | succ i=>
     have:=ih i (by simpa using h);rw [List.set_cons_succ,qL_cons,qL_cons,List.append_assoc,List.append_assoc,← this];unfold ovw;have e:(i + 1) * 4=(qs y).length + i * 4:=by simp;omega
     have e2:(i + 1) * 4 + (qs q).length=(qs y).length + (i * 4 + (qs q).length):=by simp;omega
     rw [e2,e,List.take_append,List.drop_append,List.take_of_length_le (by simp),List.drop_eq_nil_of_le (by simp)];simp
end
def fbk (LB:Nat) (l:List UInt8):SlP:=⟨fun Z w a n c=>n=l.length∧(n≤c∧c≤9223372036854775807)∧(l=[]∨∃ d o,a=some ⟨d,o,none⟩∧Z d∧LB≤d∧∀ (i:Nat) (h:i < l.length),w.cell? ⟨d,o + i,none⟩=some (.int .u8 (l[i].toNat:Int))),
 fun hz hw h=>⟨h.1,h.2.1,h.2.2.imp id fun ⟨d,o,e,hd,hl,hc⟩=>⟨d,o,e,hz d hd,hl,fun i hi=>(cell_eq (hw d hd) _).trans (hc i hi)⟩⟩⟩
structure Px where
 kb:List UInt8
 q1:Qd
 q2:Qd
abbrev pxc (LB:Nat) (p:Px):List SV:=[.s (fbk LB p.kb),.v (.int .i64 p.q1.k),.v (.int .u64 p.q1.n),.v (.slice p.q1.A.ab p.q1.A.nb p.q1.A.cb),.v (.slice p.q1.A.ai p.q1.A.ni p.q1.A.ci),.v (.int .i64 p.q2.k),.v (.int .u64 p.q2.n),.v (.slice p.q2.A.ab p.q2.A.nb p.q2.A.cb),.v (.slice p.q2.A.ai p.q2.A.ni p.q2.A.ci)]
def pL (LB:Nat):List Px→List SV
 | []=>[]
 | p :: l=>pxc LB p ++ pL LB l
section
variable (LB:Nat) (l:List Px) (p:Px) (n i:Nat)
@[go_sem] theorem pL_nil:pL LB []=[]:=rfl
theorem pL_cons:pL LB (p :: l)=pxc LB p ++ pL LB l:=rfl
@[go_sem] theorem pL_len:(pL LB l).length=l.length * 9:=by
 induction l with
 | nil=>rfl
 | cons x l ih=>rw [pL_cons,List.length_append,ih];simp;omega
@[go_sem] theorem pL_flat:(pL LB l).all flat=true:=by
 induction l with
 | nil=>rfl
 | cons y l ih=>rw [pL_cons,List.all_append,ih];rfl
theorem pL_app:pL LB l ++ pxc LB p=pL LB (l ++ [p]):=by
 induction l with
 | nil=>simp [pL_cons,pL_nil]
 | cons y l ih=>rw [List.cons_append,pL_cons,pL_cons,List.append_assoc,ih]
end
mutual
theorem TWi.lt {w:World}:∀ (x:It) {Z:Nat→Prop} {vs:List Value} {S:List Nat},TWi Z w x vs S→∀ b ∈ S,b < w.heap.size
 | .mk k n b ks,Z,vs,S,h,c,hc=>by
   unfold TWi at h;obtain ⟨ba,bc,ia,ic,e,h1,h2,h3,h4 | ⟨d,arr,S2,e1,hd,e2,e3,e4,e5⟩⟩:=h
   ·rw [h4.2] at hc;cases hc
   ·subst e5
    rcases List.mem_cons.1 hc with rfl | hc
    ·exact (Array.getElem?_eq_some_iff.1 e2).1
    ·exact TWl.lt ks e4 c hc
theorem TWl.lt {w:World}:∀ (l:List It) {Z:Nat→Prop} {vs:List Value} {S:List Nat},TWl Z w l vs S→∀ b ∈ S,b < w.heap.size
 | [],Z,vs,S,h,c,hc=>by unfold TWl at h;rw [h.2] at hc;cases hc
 | x :: xs,Z,vs,S,h,c,hc=>by
   unfold TWl at h;obtain ⟨v1,vs2,S1,S2,e1,e2,h1,h2⟩:=h;subst e2;rcases List.mem_append.1 hc with hc | hc
   ·exact TWi.lt x h1 c hc
   ·exact TWl.lt xs h2 c hc
end
def XB (w1:World) (p q:Nat):Ev:=⟨fun w=>w1.heap.size≤w.heap.size∧∀ b,b < w1.heap.size→b≠p∧b≠q→w.heap[b]?=w1.heap[b]?,fun b=>b < w1.heap.size∧b≠p∧b≠q,fun w w' hs h k=>⟨Nat.le_trans h.1 hs,fun b hb hp=>(k b ⟨hb,hp⟩).trans (h.2 b hb hp)⟩,fun w b h hb=>Nat.lt_of_lt_of_le hb.1 h.1⟩
theorem XB.env {w1:World} {p q:Nat} (hE:Env w1) (hp:2≤p∧2≤q) {w:World} (h:(XB w1 p q).E w):Env w:=XU.st w1 w h.1 hE fun b hb=>h.2 b (XU.lt w1 b hE hb) (by rcases hb with hb | hb <;> omega)
theorem encX_c {w1:World} {p p2:Nat} (hE:Env w1) (hp:2≤p∧2≤p2) {Z:Nat→Prop} {y:It} {q:Qd} {S:List Nat} (hZ:∀ b,Z b→b < w1.heap.size∧b≠p∧b≠p2) (hT:TWi Z w1 y (qv q) S) (hv:y.valid=true):AC Tryd.prog (XB w1 p p2) 18 [.agg (qs q)] [] fun r rows=>r=.tup [.s (fbk w1.heap.size y.enc),iv 0]∧rows=[]:=
 AC.freshV Tryd.call18 fun g w vals hX hz ha=>by
  have hv0:vals=[.agg (qv q).toArray]:=by
   match vals,ha with
   | [v],ha=>
     obtain ⟨us,rfl,hu⟩:=ha.1
     match us,hu with
     | [a,b,c,d],hu=>
       obtain ⟨h1,h2,h3,h4,_⟩:=hu;have h1:a=_:=h1;have h2:b=_:=h2;have h3:c=_:=h3;have h4:d=_:=h4;rw [h1,h2,h3,h4];rfl
  subst hv0;have hT2:TWi (fun _=>True) w y (qv q) S:=TWi.mono (fun _ _=>trivial) (fun b hb=>hX.2 b (hZ b hb).1 (hZ b hb).2) y _ _ hT;obtain ⟨A,hq,hI⟩:=ir_tw y hT2 (It.valid_fits hv);rw [hq];refine (cencode_any y A w _ hI (XB.env hE hp hX)).mono fun e w' ⟨v,he,hO,hB⟩=>?_
  rw [if_pos hv] at he hO;obtain ⟨a,c,rfl,h3,h4,h5⟩:=hO.br;refine ⟨_,.tup [.s (fbk w1.heap.size y.enc),iv 0],he,rfl,fun g' hg nx=>⟨[_,_],rfl,⟨_,_,_,rfl,rfl,⟨h4,h5⟩,?_⟩,rfl,trivial⟩,hB⟩;by_cases h0:y.enc=[]
  ·exact .inl h0
  ·right
   have hl:0 < y.enc.length:=List.length_pos_iff.2 h0;obtain ⟨d,o,ea,hd,hc⟩:=h3.2.2 0 hl;refine ⟨d,o,ea,hg d hd (cell_lt hc),Nat.le_trans hX.1 hd,fun i hi=>?_⟩;obtain ⟨d',o',ea',_,hc'⟩:=h3.2.2 i hi;rw [ea] at ea';cases ea';exact hc'
theorem equal_c (X:Ev) (x y:List UInt8):AC Tryd.prog X 53 [bsl x,bsl y] [] fun r rows=>r=bov (decide (x=y))∧rows=[]:=by
 have hxy:(x==y)=decide (x=y):=by by_cases h:x=y <;> simp [h]
 refine AC.bodyW false Tryd.func53 rfl Tryd.call53 Tryd.ntmps53 (by simp) fun e nx=>gw ?_
 go_simp
end Go.Proofs.YtelefkkkccilaaaDoor
namespace Go.Proofs.YtelefkkkccilaaaDoor
open Am Go.RowKit
set_option maxRecDepth 100000
namespace Am
section
variable {P:Program} {X:Ev} {e:En}
theorem chain_pre {ops:Array Oper} {K:AS→Prop} {Q:Exit→Act→World→Prop} {os2:List Oper} (hq:∀ σ a w,K σ→Rel X e σ a w→wpList P ops Q os2 a w):∀ (os:List Oper) (σ:AS) (rd wr:List Nat) (a:Act) (w:World),chain P X ops K os σ rd wr→Rel X e σ a w→wpList P ops Q (os ++ os2) a w
 | [],σ,_,_,a,w,h,hr=>hq σ a w h hr
 | o :: os,σ,_,_,a,w,h,hr=>by
   have ih:=chain_pre (ops:=ops) (Q:=Q) hq os;unfold chain at h;rw [List.cons_append];unfold wpList;cases hg:o.guard with
   | none=>
     rw [hg] at h;rw [if_pos (by simp [Region.wanted,hg])];exact .inl (oneO_wp h hr fun σ' rd wr a' w' hK hr'=>ih σ' rd wr a' w' hK hr')
   | some jb=>
     obtain ⟨j,b⟩:=jb;rw [hg] at h;have hr2:=hr;obtain ⟨hd,hs,g,hf,hI⟩:=hr;rcases gst_elim hg hf h with ⟨hw,h⟩ | ⟨hw,h⟩
     ·rw [if_pos hw]
      exact .inl (oneO_wp h hr2 fun σ' rd wr a' w' hK hr'=>ih σ' rd wr a' w' hK hr')
     ·rw [if_neg (by simp [hw])]
      have hput:=put_rel hf hs h.1 (show holds g w (.v undef) undef from rfl);exact ih _ _ _ _ _ h.2 ⟨hput.1.trans hd,hput.2.1,g,hput.2.2,hI⟩
theorem wp_callV {ops:Array Oper} {Q:Exit→Act→World→Prop} {o:Oper} {f:FuncId} {args:Array Operand} {ts:Array TypeId} {a:Act} {w:World} {os:List Oper} (ho:o.op=.call ⟨.value (.func f),args,ts⟩) (hg:o.guard=none) (hgo:∀ vals w,(callFunc f vals).run P w=.ok (.enter f vals) w) (hc:Calls P f (args.map a.eval) w fun en w'=>∃ v,en=.returned v∧wpList P ops Q os (a.put o.dst v) w'):wpList P ops Q (o :: os) a w:=by
 unfold wpList;rw [if_pos (by simp [Region.wanted,hg])];left
 have hr:(execOp a.eval o).run P w=.ok (.enter f (args.map a.eval)) w:=by
  simp only [execOp,ho,resolve,Act.eval,Deferred.ofValue,Sem.run_bind,Sem.run_pure,Result.andThen_ok,invoke];simpa using hgo (args.map a.eval) w
 unfold Oper.wp;rw [hr];refine Calls.mono hc ?_;rintro en w' ⟨v,rfl,h⟩;exact h
theorem rel_new {σ:AS} {g:Cx} {a:Act} {w:World} (rows:List Row) (hp:σ.hp=num 1000 rows) (hd:a.defers=[]) (hs:a.tmps.size=σ.N) (hf:∀ d,holds g w (look σ.fr d) (a.tmps.getD d undef)) (hz:∀ b,g.Z b→b < w.heap.size) (hv:∀ u,g.A u→u < σ.nx) (hblk:∀ u,g.A u→g.ka u≠0→g.mu u < w.heap.size) (hE:X.E w)
 (hrows:∀ r ∈ rows,rowIn g w r∧(g.ka r.ver≠0→¬ g.Z (g.mu r.ver)∧¬ X.D (g.mu r.ver))) (hap:∀ (i j:Nat) (r q:Row),rows[i]?=some r→rows[j]?=some q→i≠j→g.ka r.ver≠0→g.ka q.ver≠0→g.mu r.ver≠g.mu q.ver):Rel X ⟨w,g,rows.map (·.ver)⟩ σ a w:=by
 refine ⟨hd,hs,g,hf,?_⟩;rw [hp];exact ⟨.refl g,fun s r hs=>(hrows r (List.mem_of_getElem? (lookR_num rows 1000 s r hs).2)).1,fun s t r q hs ht hst=>by
  have h1:=lookR_num rows 1000 s r hs;have h2:=lookR_num rows 1000 t q ht;exact hap _ _ r q h1.2 h2.2 (by omega),fun s r hs _ hk=>((hrows r (List.mem_of_getElem? (lookR_num rows 1000 s r hs).2)).2 hk).1,fun s r hs hk=>by
  have h1:=lookR_num rows 1000 s r hs;exact .inr ⟨h1.1,r.ver,List.mem_map.2 ⟨r,List.mem_of_getElem? h1.2,rfl⟩,rfl,hk⟩,hv,hblk,hz,fun b hb=>.inl hb,fun b _ _=>rfl,Nat.le_refl _,⟨rfl,rfl,rfl⟩,hE,fun b hb=>X.lt w b hE hb,fun u hu hk=>by
  obtain ⟨r,hr,rfl⟩:=List.mem_map.1 hu;exact ((hrows r hr).2 hk).2⟩
theorem aw_run {σ:AS} {a:Act} {w:World} {c:Code} {Post:Exit→Act→World→Prop} (hrel:Rel X e σ a w) (σ':AS) (h:aw P X e c (fun en τ=>en=.normal∧Fits τ σ') σ) (k:∀ a' w',Rel X e σ' a' w'→Post .normal a' w'):c.wp P Post a w:=
 wp_mono (gw h a w hrel) fun en a' w' ⟨_,⟨he,hf⟩,hr⟩=>by subst he;exact k a' w' (hr.fits hf)
theorem aw_gen {σ:AS} {a:Act} {w:World} {c:Code} {Post:Exit→Act→World→Prop} (hrel:Rel X e σ a w) (Q:Exit→AS→Prop) (h:AW P X e c Q σ) (k:∀ en σ' a' w',Q en σ'→Rel X e σ' a' w'→Post en a' w'):c.wp P Post a w:=
 wp_mono (h a w hrel) fun en a' w' ⟨σ',hq,hr⟩=>k en σ' a' w' hq hr
theorem Rel.frame {σ:AS} {a:Act} {w:World} (h:Rel X e σ a w) (hl:e.lent=[]):e.w0.heap.size≤w.heap.size∧(∀ b,b < e.w0.heap.size→w.heap[b]?=e.w0.heap[b]?)∧(w.os=e.w0.os∧w.tape=e.w0.tape∧w.output=e.w0.output):=by
 obtain ⟨_,_,g,_,hI⟩:=h;exact ⟨hI.size,fun b hb=>hI.keep b hb (fun u hu=>by rw [hl] at hu;cases hu),hI.io⟩
end
end Am
end Go.Proofs.YtelefkkkccilaaaDoor
namespace Go.Proofs.YtelefkkkccilaaaDoor
open Am Go.RowKit
theorem sort_none (p:Option Addr) (c:Nat) (w:World):Calls Tryd.prog 50 #[.slice p 0 c,.func (.func 51) #[] #[]] w fun e w'=>e=.returned (.tuple #[])∧w'=w:=
 AnyF.slices_SortFunc_none tryzSf p c (.func (.func 51) #[] #[]) w
set_option maxRecDepth 100000
theorem TWi.open {Z:Nat→Prop} {w:World} {k:Int} {n:Nat} {b:List UInt8} {ks:List It} {vs:List Value} {S:List Nat} (h:TWi Z w (.mk k n b ks) vs S):
 ∃ (ba:Option Addr) (bc:Nat) (ia:Option Addr) (ic:Nat) (KV:List Value) (S2:List Nat),vs=[.int .i64 k,.int .u64 (n:Int),.slice ba b.length bc,.slice ia ks.length ic]∧(b.length≤bc∧bc≤9223372036854775807)∧TWb Z w b ba∧(ks.length≤ic∧ic≤9223372036854775807)∧
  ((ks=[]∧S=[]∧S2=[]∧KV=[])∨∃ d arr,ia=some ⟨d,0,none⟩∧Z d∧w.heap[d]?=some (.cells arr 31 (0,0))∧arr.size=ic * 4∧arr.toList.take (ks.length * 4)=KV∧S=d :: S2∧TWl (fun b=>Z b∧b≠d) w ks KV S2):=by
 unfold TWi at h;obtain ⟨ba,bc,ia,ic,e,h1,h2,h3,h4⟩:=h;rcases h4 with ⟨rfl,rfl⟩ | ⟨d,arr,S2,e1,hd,e2,e3,e4,e5⟩
 ·exact ⟨ba,bc,ia,ic,[],[],e,h1,h2,h3,.inl ⟨rfl,rfl,rfl,rfl⟩⟩
 ·exact ⟨ba,bc,ia,ic,_,S2,e,h1,h2,h3,.inr ⟨d,arr,e1,hd,e2,e3,rfl,e5,e4⟩⟩
theorem TWl.qds {Z:Nat→Prop} {w:World}:∀ {l:List It} {vs:List Value} {S:List Nat},TWl Z w l vs S→∃ QL:List Qd,vs=QL.flatMap qv∧QL.length=l.length
 | [],vs,S,h=>by unfold TWl at h;exact ⟨[],h.1,rfl⟩
 | .mk k n b ks :: xs,vs,S,h=>by
   unfold TWl at h;obtain ⟨v1,vs2,S1,S2,rfl,rfl,h1,h2⟩:=h;obtain ⟨QL,rfl,hl⟩:=TWl.qds h2;obtain ⟨ba,bc,ia,ic,KV,S3,rfl,_⟩:=h1.open;exact ⟨⟨k,n,⟨ba,b.length,bc,ia,ks.length,ic⟩⟩ :: QL,rfl,by simp [hl]⟩
theorem qv_len (q:Qd):(qv q).length=4:=rfl
theorem qvs_len (l:List Qd):(l.flatMap qv).length=4 * l.length:=by
 induction l with
 | nil=>rfl
 | cons q l ih=>rw [List.flatMap_cons,List.length_append,ih,qv_len,List.length_cons];omega
theorem qvs_app {l m:List Qd} {v1 v2:List Value} (h:(l ++ m).flatMap qv=v1 ++ v2) (hl:v1.length=4 * l.length):l.flatMap qv=v1∧m.flatMap qv=v2:=by
 rw [List.flatMap_append] at h;exact List.append_inj h (by rw [qvs_len,hl])
theorem TWl.mid {Z:Nat→Prop} {w:World} {l m:List It} {x:It} {QL:List Qd} {S:List Nat} (h:TWl Z w (l ++ x :: m) (QL.flatMap qv) S) (hQ:QL.length=l.length + (m.length + 1)) (hn:S.Nodup):
 ∃ (q:Qd) (S1 Sx S3:List Nat),QL[l.length]?=some q∧S=S1 ++ (Sx ++ S3)∧TWi Z w x (qv q) Sx∧∀ (w':World) (y:It) (Sy:List Nat),FrS Sx w w'→TWi Z w' y (qv q) Sy→TWl Z w' (l ++ y :: m) (QL.flatMap qv) (S1 ++ (Sy ++ S3)):=by
 obtain ⟨v1,v2,S1,S2,e1,rfl,h1,h2⟩:=TWl.app.1 h;have hlt:=h1.lt;have hlt2:=h2.lt;unfold TWl at h2;obtain ⟨vx,v3,Sx,S3,rfl,rfl,h3,h4⟩:=h2;have hl1:=h1.len;have hl2:=h3.len;have hlt4:=h4.lt;obtain ⟨q,hq⟩:∃ q,QL[l.length]?=some q:=⟨QL[l.length]'(by omega),List.getElem?_eq_getElem (by omega)⟩;have hsp:QL=QL.take l.length ++ (q :: QL.drop (l.length + 1)):=by
  have:=List.drop_eq_getElem_cons (show l.length < QL.length by omega);rw [List.getElem?_eq_getElem (by omega)] at hq;rw [← Option.some.inj hq,← this,List.take_append_drop]
 rw [hsp] at e1;obtain ⟨e2,e3⟩:=qvs_app e1 (by rw [hl1,List.length_take];omega);rw [List.flatMap_cons] at e3;obtain ⟨e4,e5⟩:=List.append_inj e3 (by rw [qv_len,hl2]);subst e4;rw [List.nodup_append] at hn;obtain ⟨n1,n2,n3⟩:=hn;rw [List.nodup_append] at n2;obtain ⟨n4,n5,n6⟩:=n2;refine ⟨q,S1,Sx,S3,hq,rfl,h3,fun w' y Sy hF hy=>?_⟩;rw [hsp,e1];refine TWl.app.2 ⟨v1,_,S1,_,rfl,rfl,TWl.keep hF.u8 l (fun b hb=>hF.keep b (hlt b hb) fun hm=>n3 b hb b (by simp [hm]) rfl) h1,?_⟩;unfold TWl;exact ⟨qv q,v3,Sy,S3,rfl,rfl,hy,TWl.keep hF.u8 m (fun b hb=>hF.keep b (hlt4 b hb) fun hm=>n6 b hm b hb rfl) h4⟩
def L1 (Z:Nat→Prop) (w0:World) (ks:List It) (QL:List Qd) (S2:List Nat) (i:Nat) (w:World):Prop:=FrS S2 w0 w∧∃ ys S',It.srts (ks.take i)=some ys∧TWl Z w (ys ++ ks.drop i) (QL.flatMap qv) S'∧S'.Perm S2
theorem L1.zero {Z:Nat→Prop} {w0:World} {ks:List It} {QL:List Qd} {S2:List Nat} (h:TWl Z w0 ks (QL.flatMap qv) S2):L1 Z w0 ks QL S2 0 w0:=⟨.refl _ _,[],S2,rfl,h,.refl _⟩
theorem L1.kid {Z:Nat→Prop} {w0 w:World} {ks:List It} {QL:List Qd} {S2:List Nat} {i:Nat} (h:L1 Z w0 ks QL S2 i w) (hi:i < ks.length) (hQ:QL.length=ks.length) (hn:S2.Nodup):
 ∃ (q:Qd) (Sx:List Nat),QL[i]?=some q∧TWi Z w ks[i] (qv q) Sx∧Sx.Nodup∧(∀ b ∈ Sx,b ∈ S2)∧∀ (e:Ending) (w':World),SoP Z w (ks[i]).srt (qv q) Sx e w'→FrS S2 w0 w'∧FrS S2 w w'∧((e=.returned (.bool false)∧It.srts ks=none)∨(e=.returned (.bool true)∧L1 Z w0 ks QL S2 (i + 1) w')):=by
 obtain ⟨hF,ys,S',h1,h2,h3⟩:=h;have hyl:=It.srts_len h1;rw [List.length_take,Nat.min_eq_left (by omega)] at hyl;rw [List.drop_eq_getElem_cons hi] at h2;obtain ⟨q,S1,Sx,S3,hq,rfl,hx,hrep⟩:=h2.mid (by rw [hyl,List.length_drop];omega) (h3.nodup_iff.2 hn);rw [hyl] at hq;have hsub:∀ b ∈ Sx,b ∈ S2:=fun b hb=>h3.mem_iff.1 (by simp [hb])
 have hnx:Sx.Nodup:=by
  have:=h3.nodup_iff.2 hn;rw [List.nodup_append] at this;have:=this.2.1;rw [List.nodup_append] at this;exact this.1
 refine ⟨q,Sx,hq,hx,hnx,hsub,?_⟩;rintro e w' ⟨hF2,hR⟩;have hsp:ks=ks.take i ++ ks[i] :: ks.drop (i + 1):=by rw [← List.drop_eq_getElem_cons hi,List.take_append_drop]
 refine ⟨hF.trans hF2 (fun b hb=>hb) hsub,hF2.mono hsub,?_⟩;cases hs:(ks[i]).srt with
 | none=>
   rw [hs] at hR;refine .inl ⟨hR,?_⟩;rw [hsp,It.srts_split,h1];simp only [hs]
 | some y=>
   rw [hs] at hR;obtain ⟨he,Sy,hp,hy⟩:=hR;refine .inr ⟨he,hF.trans hF2 (fun b hb=>hb) hsub,ys ++ [y],S1 ++ (Sy ++ S3),?_,?_,?_⟩
   ·rw [List.take_add_one,List.getElem?_eq_getElem hi]
    show It.srts (ks.take i ++ [ks[i]])=_
    rw [It.srts_snoc,h1,hs];rfl
   ·rw [List.append_assoc]
    exact hrep w' y Sy hF2 hy
   ·refine List.Perm.trans ?_ h3
    exact (List.Perm.append_left _ (hp.append_right _))
abbrev xC (k:Int) (n:Nat) (ba:Option Addr) (bl bc:Nat) (m:Nat) (QL:List Qd):List SV:=[.v (.int .i64 k),.v (.int .u64 (n:Int)),.v (.slice ba bl bc),.sl m 4 (qL QL)]
theorem xC_holds {g:Cx} {w:World} {k:Int} {n:Nat} {ba:Option Addr} {bl bc m:Nat} {QL:List Qd} {ia:Option Addr} {ic blk off:Nat} {arr:Array Value} (hblk:w.heap[blk]?=some (.cells arr 31 (0,0))) (hv:(arr.toList.drop off).take 4=[.int .i64 k,.int .u64 (n:Int),.slice ba bl bc,.slice ia m ic]) (hZ:g.Z blk) (hm:QL.length=m) (hic:m≤ic∧ic≤9223372036854775807)
 (hK:m=0∨∃ d ar,ia=some ⟨d,0,none⟩∧g.Z d∧w.heap[d]?=some (.cells ar 31 (0,0))∧ar.toList.take (m * 4)=QL.flatMap qv):holds g w (.rp (xC k n ba bl bc m QL)) (.pointer (some ⟨blk,off,none⟩)):=by
 refine ⟨blk,off,rfl,hZ,?_⟩;have hc:∀ j v,[Value.int .i64 k,.int .u64 (n:Int),.slice ba bl bc,.slice ia m ic][j]?=some v→w.cell? ⟨blk,off + j,none⟩=some v:=fun j v hj=>by
  rw [← hv,List.getElem?_take] at hj
  split at hj
  ·rw [List.getElem?_drop] at hj
   simp only [World.cell?,hblk];simpa using hj
  ·cases hj
 refine ⟨⟨_,hc 0 _ rfl,rfl⟩,⟨_,hc 1 _ rfl,rfl⟩,⟨_,hc 2 _ rfl,rfl⟩,⟨_,hc 3 _ rfl,ia,ic,rfl,hic,by rw [qL_len,hm],?_⟩,trivial⟩;rcases hK with h0 | ⟨d,ar,rfl,hd,hh,ht⟩
 ·exact .inl (by rw [qL_len,hm,h0])
 ·refine .inr ⟨d,0,rfl,hd,?_⟩
  rw [qL_val];refine atL.of (agL.ofv _) fun i x hx=>?_
  rw [← ht,List.getElem?_take] at hx
  split at hx
  ·simp only [World.cell?,hh,Nat.zero_add]
   simpa using hx
  ·cases hx
def gX (d blk ka kb:Nat) (Z:Nat→Prop):Cx:=⟨Z,fun u=>u < 2,fun u=>if u=0 then d else blk,fun u=>if u=0 then ka else kb⟩
abbrev rK (QL:List Qd) (tl:List Value):Row:=⟨0,31,4,qL QL ++ tl.map .v⟩
def xr (pre post:List Value) (k:Int) (n:Nat) (ba:Option Addr) (bl bc m:Nat):List SV:=pre.map .v ++ (.v (.int .i64 k) :: .v (.int .u64 (n:Int)) :: .v (.slice ba bl bc) :: .own 1000 0 m 4 :: post.map .v)
abbrev rX (pre post:List Value) (k:Int) (n:Nat) (ba:Option Addr) (bl bc m:Nat):Row:=⟨1,31,4,xr pre post k n ba bl bc m⟩
section
variable (pre post:List Value) (k:Int) (n:Nat) (ba:Option Addr) (bl bc m:Nat)
@[go_sem] theorem xr_len:(xr pre post k n ba bl bc m).length=pre.length + (4 + post.length):=by simp [xr];omega
@[go_sem] theorem xr_d0:(xr pre post k n ba bl bc m).drop pre.length=.v (.int .i64 k) :: .v (.int .u64 (n:Int)) :: .v (.slice ba bl bc) :: .own 1000 0 m 4 :: post.map .v:=by
 unfold xr;rw [List.drop_append];simp
@[go_sem] theorem xr_d1 (j:Nat):(xr pre post k n ba bl bc m).drop (pre.length + j)=(SV.v (.int .i64 k) :: .v (.int .u64 (n:Int)) :: .v (.slice ba bl bc) :: .own 1000 0 m 4 :: post.map .v).drop j:=by
 rw [← List.drop_drop,xr_d0]
end
def okS (A:Nat→Bool):SV→Bool
 | .any | .v _=>true
 | .ptr _ v _ | .own _ v _ _=>A v
 | _=>false
theorem okS_holds {A:Nat→Bool} {g g':Cx} {w w':World} {s:SV} {v:Value} (hs:okS A s=true) (hA:∀ u,A u=true→g.A u) (hg:g.le g') (h:holds g' w s v):holds g w' s v:=by
 cases s with
 | any=>trivial
 | v x=>exact h
 | ptr s u o=>
   have hu:=hA u hs;obtain ⟨_,e⟩:=h;exact ⟨hu,by rw [← (hg.a u hu).2.1];exact e⟩
 | own s u n k=>
   have hu:=hA u hs;obtain ⟨_,e1,e2⟩:=h;have:=hg.a u hu;rw [this.2.1,this.2.2] at e2;rw [this.2.2] at e1;exact ⟨hu,e1,e2⟩
 | _=>cases hs
theorem look_ok {A:Nat→Bool}:∀ {fr:List (Nat × SV)},fr.all (fun p=>okS A p.2)=true→∀ d,okS A (Am.look fr d)=true
 | [],_,d=>rfl
 | (k,s) :: l,h,d=>by
   rw [List.all_cons,Bool.and_eq_true] at h;rw [show Am.look ((k,s) :: l) d=if k=d then s else Am.look l d from rfl];by_cases hk:k=d
   ·rw [if_pos hk];exact h.1
   ·rw [if_neg hk];exact look_ok h.2 d
theorem Rel.again {X:Ev} {σ:AS} {w0 w w':World} {g:Cx} {rows0 rows:List Row} {a:Act} {nx:Nat} {fr:List (Nat × SV)} (A:Nat→Bool) (hA:∀ u,A u=true→g.A u) (h:Rel X ⟨w0,g,rows0.map (·.ver)⟩ σ a w) (hfr:fr.all (fun p=>okS A p.2)=true) (hsub:∀ d,Am.look fr d=Am.look σ.fr d∨Am.look fr d=.any)
 (hz:∀ b,g.Z b→b < w'.heap.size) (hv:∀ u,g.A u→u < nx) (hblk:∀ u,g.A u→g.ka u≠0→g.mu u < w'.heap.size) (hE:X.E w')
 (hrows:∀ r ∈ rows,rowIn g w' r∧(g.ka r.ver≠0→¬ g.Z (g.mu r.ver)∧¬ X.D (g.mu r.ver))) (hap:∀ (i j:Nat) (r q:Row),rows[i]?=some r→rows[j]?=some q→i≠j→g.ka r.ver≠0→g.ka q.ver≠0→g.mu r.ver≠g.mu q.ver):Rel X ⟨w',g,rows.map (·.ver)⟩ ⟨fr,num 1000 rows,nx,[],σ.N⟩ a w':=by
 obtain ⟨hd,hs,g1,hf,hI⟩:=h;refine rel_new rows rfl hd hs (fun d=>?_) hz hv hblk hE hrows hap
 show holds g w' (Am.look fr d) _
 rcases hsub d with e | e
 ·have h1:=look_ok hfr d
  rw [e] at h1 ⊢;exact okS_holds h1 hA hI.le (hf d)
 ·rw [e];trivial
def sA:Code→Code | .seq a _=>a | c=>c
def sB:Code→Code | .seq _ b=>b | c=>c
def bC:Code→Code | .block _ b=>b | c=>c
def oC:Code→Code | .loop b=>b | c=>c
noncomputable def k102:Code:=Tryd.f24.body.getD .skip
structure Kx where
 k:Int
 n:Nat
 ba:Option Addr
 bl:Nat
 bc:Nat
 m:Nat
 ic:Nat
 cx:Nat
 d:Nat
 blk:Nat
 QL:List Qd
 tl:List Value
 pre:List Value
 post:List Value
namespace Kx
variable (K:Kx)
def kc:List Value:=K.QL.flatMap qv ++ K.tl
def x4:List Value:=[.int .i64 K.k,.int .u64 (K.n:Int),.slice K.ba K.bl K.bc,.slice (some ⟨K.d,0,none⟩) K.m K.ic]
def xc:List Value:=K.pre ++ (K.x4 ++ K.post)
def W (w:World):Prop:=w.heap[K.d]?=some (.cells K.kc.toArray 31 (0,0))∧w.heap[K.blk]?=some (.cells K.xc.toArray 31 (0,0))
structure Ok:Prop where
 hm:K.QL.length=K.m
 h0:0 < K.m
 hk:K.kc.length=K.ic * 4
 hx:K.xc.length=K.cx * 4
 hi:K.m≤K.ic∧K.ic≤9223372036854775807
 hd:2≤K.d∧2≤K.blk∧K.d≠K.blk
abbrev g (Z:Nat→Prop):Cx:=gX K.d K.blk K.ic K.cx Z
abbrev r0:Row:=rK K.QL K.tl
abbrev r1:Row:=rX K.pre K.post K.k K.n K.ba K.bl K.bc K.m
end Kx
theorem r0_cs (QL:List Qd) (tl:List Value):qL QL ++ tl.map .v=(QL.flatMap qv ++ tl).map .v:=by rw [qL_val,List.map_append]
def exS:SV→Bool
 | .v _=>true
 | .own _ v _ _=>v==0
 | _=>false
theorem agE {g g':Cx} {w w':World} (h0:g.ka 0≠0) (h1:g'.mu 0=g.mu 0∧g'.ka 0=g.ka 0):∀ {cs:List SV} {vs us:List Value},cs.all exS=true→agL g w cs vs→agL g' w' cs us→vs=us
 | [],[],[],_,_,_=>rfl
 | c :: cs,v :: vs,u :: us,he,h,k=>by
   rw [List.all_cons,Bool.and_eq_true] at he;rw [agE h0 h1 he.2 h.2 k.2];congr 1
   have hv:=h.1;have hu:=k.1;cases c with
   | v x=>exact (show v=x from hv).trans (show u=x from hu).symm
   | own s t n k'=>
     obtain rfl:t=0:=by simpa [exS] using he.1
     obtain ⟨_,_,e | ⟨e,_⟩⟩:=hv
     ·obtain ⟨_,_,e2 | ⟨e2,_⟩⟩:=hu
      ·rw [e,e2,h1.1,h1.2]
      ·rw [h1.2] at e2;exact absurd e2 h0
     ·exact absurd e h0
   | _=>cases he.1
 | [],_ :: _,_,_,h,_=>h.elim
 | _ :: _,[],_,_,h,_=>h.elim
 | [],[],_ :: _,_,_,k=>k.elim
 | _ :: _,_ :: _,[],_,_,k=>k.elim
theorem xr_ex (pre post:List Value) (k:Int) (n:Nat) (ba:Option Addr) (bl bc m:Nat):(xr pre post k n ba bl bc m).all exS=true:=by
 simp [xr,exS]
namespace Kx
variable {K:Kx}
theorem ag1 (h:K.Ok) (Z:Nat→Prop) (w:World):agL (K.g Z) w (xr K.pre K.post K.k K.n K.ba K.bl K.bc K.m) K.xc:=by
 refine (agL.ofv _).append ⟨rfl,rfl,rfl,⟨show (0:Nat) < 2 by omega,h.hi,.inl rfl⟩,agL.ofv _⟩
theorem rin (h:K.Ok) {X:Ev} (hX:¬ X.D K.d∧¬ X.D K.blk) {w:World} (hW:K.W w) {Z:Nat→Prop} (hZ:¬ Z K.d∧¬ Z K.blk):∀ r ∈ [K.r0,K.r1],rowIn (K.g Z) w r∧((K.g Z).ka r.ver≠0→¬ (K.g Z).Z ((K.g Z).mu r.ver)∧¬ X.D ((K.g Z).mu r.ver)):=by
 have hb:=h.hd;intro r hr;simp only [List.mem_cons,List.not_mem_nil,or_false] at hr;rcases hr with rfl | rfl
 ·refine ⟨⟨show (0:Nat) < 2 by omega,.inr ⟨_,hW.1,?_,?_,?_⟩⟩,fun _=>⟨hZ.1,fun hd=>?_⟩⟩
  ·show K.kc.toArray.size=K.ic * 4
   simpa using h.hk
  ·show (qL K.QL ++ K.tl.map SV.v).length≤_
   rw [r0_cs];simp [Kx.kc]
  ·show agL _ _ (qL K.QL ++ K.tl.map SV.v) (K.kc.take (qL K.QL ++ K.tl.map SV.v).length)
   rw [r0_cs,List.take_of_length_le (by simp [Kx.kc])];exact agL.ofv _
  ·exact hX.1 hd
 ·refine ⟨⟨show (1:Nat) < 2 by omega,.inr ⟨_,hW.2,?_,?_,?_⟩⟩,fun _=>⟨hZ.2,fun hd=>?_⟩⟩
  ·show K.xc.toArray.size=K.cx * 4
   simpa using h.hx
  ·show (xr K.pre K.post K.k K.n K.ba K.bl K.bc K.m).length≤_
   rw [xr_len];simp [Kx.xc,Kx.x4];omega
  ·show agL _ _ (xr K.pre K.post K.k K.n K.ba K.bl K.bc K.m) (K.xc.take (xr K.pre K.post K.k K.n K.ba K.bl K.bc K.m).length)
   rw [xr_len,List.take_of_length_le (by simp [Kx.xc,Kx.x4];omega)];exact ag1 h Z w
  ·exact hX.2 hd
theorem rap (h:K.Ok) (Z:Nat→Prop):∀ (i j:Nat) (r q:Row),[K.r0,K.r1][i]?=some r→[K.r0,K.r1][j]?=some q→i≠j→(K.g Z).ka r.ver≠0→(K.g Z).ka q.ver≠0→(K.g Z).mu r.ver≠(K.g Z).mu q.ver:=by
 have hb:=h.hd.2.2;intro i j r q hi hj hij _ _
 match i,j,hi,hj with
 | 0,0,_,_=>exact absurd rfl hij
 | 1,1,_,_=>exact absurd rfl hij
 | 0,1,hi,hj=>cases hi;cases hj;exact hb
 | 1,0,hi,hj=>cases hi;cases hj;exact Ne.symm hb
 | i + 2,_,hi,_=>simp at hi
 | 0,j + 2,_,hj=>simp at hj
 | 1,j + 2,_,hj=>simp at hj
theorem relX (h:K.Ok) {X:Ev} (hX:¬ X.D K.d∧¬ X.D K.blk) {w:World} (hW:K.W w) (hE:X.E w) {a:Act} {fr:List (Nat × SV)} (hd:a.defers=[]) (hs:a.tmps.size=114) (hf:∀ d,holds (K.g fun _=>False) w (Am.look fr d) (a.tmps.getD d undef)):Rel X ⟨w,K.g fun _=>False,[0,1]⟩ ⟨fr,[(1000,K.r0),(1001,K.r1)],2,[],114⟩ a w:=by
 have h1:K.d < w.heap.size:=lb hW.1;have h2:K.blk < w.heap.size:=lb hW.2;refine rel_new [K.r0,K.r1] rfl hd hs hf (fun b hb=>hb.elim) (fun u hu=>hu) (fun u hu _=>?_) hE (rin h hX hW ⟨id,id⟩) (rap h _)
 show (if u=0 then K.d else K.blk) < _
 split <;> assumption
theorem xu (h:K.Ok):¬ XU.D K.d∧¬ XU.D K.blk:=by
 have hb:=h.hd;exact ⟨fun hd=>by have hd:K.d=0∨K.d=1:=hd;omega,fun hd=>by have hd:K.blk=0∨K.blk=1:=hd;omega⟩
theorem xb (w:World):¬ (XB w K.d K.blk).D K.d∧¬ (XB w K.d K.blk).D K.blk:=⟨fun h=>h.2.1 rfl,fun h=>h.2.2 rfl⟩
theorem rel (h:K.Ok) {w:World} (hW:K.W w) (hE:Env w) {a:Act} {fr:List (Nat × SV)} (hd:a.defers=[]) (hs:a.tmps.size=114) (hf:∀ d,holds (K.g fun _=>False) w (Am.look fr d) (a.tmps.getD d undef)):Rel XU ⟨w,K.g fun _=>False,[0,1]⟩ ⟨fr,[(1000,K.r0),(1001,K.r1)],2,[],114⟩ a w:=relX h (xu h) hW hE hd hs hf
theorem back (h:K.Ok) {X:Ev} {w w':World} (hW:K.W w) {σ:AS} {a:Act} (hr:Rel X ⟨w,K.g fun _=>False,[0,1]⟩ σ a w') (h0:lookR σ.hp 1000=some K.r0) (h1:lookR σ.hp 1001=some K.r1):K.W w'∧FrS [] w w':=by
 obtain ⟨_,_,g,hf,hI⟩:=hr;have hi0:K.ic≠0:=by have:=h.h0;have:=h.hi;omega
 have hc0:K.cx≠0:=by
  have:=h.hx;have e:K.xc.length=K.pre.length + (4 + K.post.length):=by simp [Kx.xc,Kx.x4];omega
  omega
 have e0:g.A 0∧g.mu 0=K.d∧g.ka 0=K.ic:=hI.le.a 0 (show (0:Nat) < 2 by omega);have e1:g.A 1∧g.mu 1=K.blk∧g.ka 1=K.cx:=hI.le.a 1 (show (1:Nat) < 2 by omega);have hWW:K.W w':=by
  constructor
  ·obtain ⟨_,⟨hk,_⟩ | ⟨arr,a1,a2,a3,a4⟩⟩:=hI.row 1000 _ h0
   ·have hk:g.ka 0=0:=hk
    omega
   ·have a1:w'.heap[g.mu 0]?=some (.cells arr 31 (0,0)):=a1
    have a2:arr.size=g.ka 0 * 4:=a2;have a4:agL g w' (qL K.QL ++ K.tl.map SV.v) (arr.toList.take (qL K.QL ++ K.tl.map SV.v).length):=a4;rw [r0_cs,List.take_of_length_le (by have h1:=h.hk;unfold Kx.kc at h1;rw [List.length_map,h1,Array.length_toList];omega)] at a4;have a5:=agL_v a4;rw [← e0.2.1,a1];congr 2
    rw [Kx.kc,← a5]
  ·obtain ⟨_,⟨hk,_⟩ | ⟨arr,a1,a2,a3,a4⟩⟩:=hI.row 1001 _ h1
   ·have hk:g.ka 1=0:=hk
    omega
   ·have a1:w'.heap[g.mu 1]?=some (.cells arr 31 (0,0)):=a1
    have a2:arr.size=g.ka 1 * 4:=a2;have a4:agL g w' (xr K.pre K.post K.k K.n K.ba K.bl K.bc K.m) (arr.toList.take (xr K.pre K.post K.k K.n K.ba K.bl K.bc K.m).length):=a4;rw [xr_len,List.take_of_length_le (by have h1:=h.hx;simp only [Kx.xc,Kx.x4,List.length_append,List.length_cons,List.length_nil] at h1;rw [Array.length_toList];omega)] at a4;have a5:=agE (w:=w) (vs:=K.xc) (g:=K.g fun _=>False) hi0 ⟨e0.2.1,e0.2.2⟩ (xr_ex ..) (ag1 h _ w) a4;rw [← e1.2.1,a1];congr 2
    rw [a5]
 refine ⟨hWW,.of hI.size (fun b hb=>?_) hI.io _⟩;by_cases hbd:b=K.d
 ·rw [hbd,hWW.1,hW.1]
 by_cases hbx:b=K.blk
 ·rw [hbx,hWW.2,hW.2]
 refine hI.keep b hb fun u hu _=>?_
 rcases List.mem_cons.1 hu with rfl | hu
 ·exact hbd
 ·rcases List.mem_cons.1 hu with rfl | hu
  ·exact hbx
  ·cases hu
end Kx
theorem Am.Rel.put {X:Ev} {e:En} {σ:AS} {a:Act} {w:World} (h:Rel X e σ a w) {dst:Option Tmp} (hd:dOk σ.N dst) (v:Value):Rel X e ⟨putF σ.fr (.v v) dst,σ.hp,σ.nx,σ.fz,σ.N⟩ (a.put dst v) w:=by
 obtain ⟨h1,hs,g,hf,hI⟩:=h;have hp:=put_rel hf hs hd (show holds g w (.v v) v from rfl);exact ⟨hp.1.trans h1,hp.2.1,g,hp.2.2,hI⟩
theorem chain_at {P:Program} {X:Ev} {e:En} {ops:Array Oper} {Q:Exit→Act→World→Prop} {os:List Oper} {σ:AS} {a:Act} {w:World} (n:Nat) (K:AS→Prop) (h:chain P X ops K (os.take n) σ [] []) (hr:Rel X e σ a w) (hq:∀ σ a w,K σ→Rel X e σ a w→wpList P ops Q (os.drop n) a w):wpList P ops Q os a w:=by
 have:=chain_pre hq (os.take n) σ [] [] a w h hr;rwa [List.take_append_drop] at this
theorem L1.keep {Z:Nat→Prop} {w0 w w':World} {ks:List It} {QL:List Qd} {S2:List Nat} {i:Nat} (h:L1 Z w0 ks QL S2 i w) (hF:FrS [] w w'):L1 Z w0 ks QL S2 i w':=by
 obtain ⟨h1,ys,S',h2,h3,h4⟩:=h;refine ⟨h1.trans hF (fun _ h=>h) (fun _ h=>by cases h),ys,S',h2,?_,h4⟩;have hlt:=TWl.lt _ h3;exact TWl.keep hF.u8 _ (fun b hb=>hF.keep b (hlt b hb) (by simp)) h3
abbrev Kx.en (K:Kx) (w:World):En:=⟨w,K.g fun _=>False,[0,1]⟩
abbrev Kx.st (K:Kx) (fr:List (Nat × SV)):AS:=⟨fr,[(1000,K.r0),(1001,K.r1)],2,[],114⟩
theorem kx_get {K:Kx} {q:Qd} {i:Nat} (hq:K.QL[i]?=some q):(K.kc.toArray.toList.drop (i * 4)).take 4=qv q:=by
 obtain ⟨hi,e⟩:=List.getElem?_eq_some_iff.1 hq;have hsp:K.QL=K.QL.take i ++ (q :: K.QL.drop (i + 1)):=by
  rw [← e,← List.drop_eq_getElem_cons hi,List.take_append_drop]
 show (K.kc.drop (i * 4)).take 4=_
 unfold Kx.kc;rw [hsp,List.flatMap_append,List.flatMap_cons,List.append_assoc,List.append_assoc,List.drop_append,List.drop_eq_nil_of_le (by rw [qvs_len,List.length_take];omega),qvs_len,List.length_take,Nat.min_eq_left (by omega),show i * 4 - 4 * i=0 by omega]
 rfl
section
variable {K:Kx} (hK:K.Ok)
include hK
theorem Kx.again {fr:List (Nat × SV)} {w w1 w':World} {a:Act} (hr:Rel XU (K.en w) (K.st fr) a w1) (hfr:fr.all (fun p=>okS (fun u=>decide (u < 2)) p.2)=true) (hW:K.W w') (hE:Env w'):Rel XU (K.en w') (K.st fr) a w':=by
 obtain ⟨hd,hs,g,hf,hI⟩:=hr;exact Kx.rel hK hW hE hd hs fun d=>okS_holds (look_ok hfr d) (fun u hu=>show u < 2 by simpa using hu) hI.le (hf d)
set_option maxHeartbeats 8000000 in
theorem ph1 {M:Nat} (ih:SoK M) {Z:Nat→Prop} {w0:World} {ks:List It} {S2:List Nat} (hQ:K.QL.length=ks.length) (hn:S2.Nodup) (h2:∀ b ∈ S2,2≤b) (hd:K.d ∉ S2) (hb:K.blk ∉ S2) (hZ:∀ b,Z b→b < w0.heap.size∧b≠K.d) (hnod:It.nodesL ks≤M) (hsv:It.svs ks) (hfit:It.fitsL ks) {Post:Exit→Act→World→Prop}
 (hret:∀ a w,Rel XU (K.en w) (K.st [(2,bov false)]) a w→FrS S2 w0 w→It.srts ks=none→Post .ret a w)
 (hnext:∀ a w,L1 Z w0 ks K.QL S2 K.m w→K.W w→Env w→Rel XU (K.en w) (K.st [(0,.ptr 1001 1 K.pre.length)]) a w→Post .normal a w)
 {a:Act} {w:World} (hL0:L1 Z w0 ks K.QL S2 0 w) (hW0:K.W w) (hE0:Env w) (hrel:Rel XU (K.en w) (K.st [(0,.ptr 1001 1 K.pre.length)]) a w):(sA (sB k102)).wp Tryd.prog Post a w:=by
 have hi:=hK.hi;have hm:=hK.hm;have hml:K.m=ks.length:=by omega
 have h00:Am.look (K.st [(0,.ptr 1001 1 K.pre.length)]).fr 0=.ptr 1001 1 K.pre.length:=rfl;refine wp_seq ?_;refine aw_run hrel (K.st [(0,.ptr 1001 1 K.pre.length),(14,iv K.m),(15,iv 0)]) ?_ fun a' w' hr=>?_
 ·go_simp
  omega
 obtain ⟨hW1,hF1⟩:=Kx.back hK hW0 hr rfl rfl;have hE1:=hF1.env (by simp) hE0
 replace hL0:=hL0.keep hF1
 replace hr:Rel XU (K.en w') (K.st [(0,.ptr 1001 1 K.pre.length),(14,iv K.m),(15,iv (0:Nat))]) a' w':=Kx.again hK hr rfl hW1 hE1
 clear hrel hF1 hE0 hW0;refine wp_block (wp_loop_rounds (K.m + 1) ?_);have key:∀ r i (a:Act) (w:World),i + r=K.m→L1 Z w0 ks K.QL S2 i w→K.W w→Env w→Rel XU (K.en w) (K.st [(0,.ptr 1001 1 K.pre.length),(14,iv K.m),(15,iv i)]) a w→Code.rounds Tryd.prog (oC (bC (sB (sA (sB k102))))) (Exit.inBlock 0 Post) (r + 1) a w:=by
  intro r
  induction r with
  | zero=>
    intro i a w hir hL hW hE hr;obtain rfl:i=K.m:=by omega
    rw [rounds_succ];refine aw_gen (c:=.seq _ (.seq _ _)) hr (fun en τ=>en=.exit 0∧Fits τ (K.st [(0,.ptr 1001 1 K.pre.length)])) (gw ?_) fun en τ a' w' ⟨he,hf⟩ hr'=>?_
    ·go_simp
    ·subst he
     have hr':=hr'.fits hf;obtain ⟨hW',hF'⟩:=Kx.back hK hW hr' rfl rfl;have hE':=hF'.env (by simp) hE;exact hnext a' w' (hL.keep hF') hW' hE' (Kx.again hK hr' rfl hW' hE')
  | succ r ihr=>
    intro i a w hir hL hW hE hr;have hik:i < ks.length:=by omega
    rw [rounds_succ];refine wp_seq ?_;refine aw_run hr (K.st [(0,.ptr 1001 1 K.pre.length),(14,iv K.m),(15,iv i),(16,bov true)]) ?_ fun a w1 hr=>?_
    ·go_simp
    refine wp_seq ?_;refine aw_run hr (K.st [(0,.ptr 1001 1 K.pre.length),(14,iv K.m),(15,iv i)]) ?_ fun a w1 hr=>?_
    ·go_simp
    refine wp_seq ?_;refine wp_block (wp_seq ?_);refine aw_run hr (K.st [(0,.ptr 1001 1 K.pre.length),(14,iv K.m),(15,iv i),(3,iv i)]) ?_ fun a w1 hr=>?_
    ·go_simp
    refine wp_seq (wp_region_list ?_);have hsub:i < K.m:=by omega
    have hq4:(qL K.QL ++ K.tl.map SV.v).length=K.ic * 4:=by have:=hK.hk;rw [r0_cs];simpa [Kx.kc] using this
    refine chain_at 6 (fun σ=>Fits σ (K.st [(0,.ptr 1001 1 K.pre.length),(14,iv K.m),(15,iv i),(23,.ptr 1000 0 (i * 4))])) ?_ hr ?_
    ·go_simp
     omega
    ·intro σ a w2 hf hr
     replace hr:=hr.fits hf
     obtain ⟨hW2,hF2⟩:=Kx.back hK hW hr rfl rfl;have hE2:=hF2.env (by simp) hE;have hL2:=hL.keep hF2;obtain ⟨q,Sx,hq,hx,hnx,hsx,hkid⟩:=hL2.kid hik (by omega) hn;have hptr:a.tmps.getD 23 undef=.pointer (some ⟨K.d,i * 4,none⟩):=by
      obtain ⟨_,_,g,hf,hI⟩:=hr;obtain ⟨_,e⟩:=hf 23;rw [e,(hI.le.a 0 (show (0:Nat) < 2 by omega)).2.1];rfl
     refine wp_callV (f:=24) rfl rfl Tryd.call24 ?_;have hn1:=It.nodes_in (List.getElem_mem hik);have hcall:Calls Tryd.prog 24 #[.pointer (some ⟨K.d,i * 4,none⟩)] w2 (SoP Z w2 (ks[i]).srt (qv q) Sx):=by
      refine ih ks[i] (by omega) (It.svs_in hik hsv) (It.fits_in hfit (List.getElem_mem hik)) Z w2 K.d (i * 4) (qv q) Sx hE2 hx hnx (fun c hc=>h2 c (hsx c hc)) (fun hm=>hd (hsx _ hm)) hK.hd.1 (fun b hb=>⟨Nat.lt_of_lt_of_le (hZ b hb).1 hL2.1.size,(hZ b hb).2⟩) ⟨K.kc.toArray,K.ic,hW2.1,by simpa using hK.hk,?_,kx_get hq⟩;have:=hK.hk;simp only [List.size_toArray];omega
     rw [show Array.map a.eval #[Operand.tmp 23]=#[.pointer (some ⟨K.d,i * 4,none⟩)] by simp [Act.eval,hptr]];refine Calls.mono hcall ?_;rintro en w3 hso;obtain ⟨hF3,hF4,hres⟩:=hkid en w3 hso;have hdl:K.d < w2.heap.size:=lb hW2.1;have hbl:K.blk < w2.heap.size:=lb hW2.2;have hW3:K.W w3:=⟨(hF4.keep _ hdl hd).trans hW2.1,(hF4.keep _ hbl hb).trans hW2.2⟩;have hE3:=hF4.env h2 hE2;have hr3:=Kx.again hK hr rfl hW3 hE3;rcases hres with ⟨rfl,hsr⟩ | ⟨rfl,hL3⟩
     ·refine ⟨.bool false,rfl,?_⟩
      have hr4:=hr3.put (dst:=some 24) (show (24:Nat) < 114 by omega) (.bool false);refine chain_wp (K:=fun σ=>Fits σ (K.st [(25,bov true)])) ?_ _ _ [] [] _ _ ?_ hr4
      ·intro σ a w4 hf hr
       refine aw_gen (hr.fits hf) (fun en τ=>en=.ret∧Fits τ (K.st [(2,bov false)])) (gw ?_) fun en τ a' w5 ⟨he,hf⟩ hr'=>?_
       ·go_simp
       ·subst he
        have hr':=hr'.fits hf;obtain ⟨hW5,hF5⟩:=Kx.back hK hW3 hr' rfl rfl;exact hret a' w5 (Kx.again hK hr' rfl hW5 (hF5.env (by simp) hE3)) (hF3.trans hF5 (fun _ h=>h) (fun _ h=>by cases h)) hsr
      ·go_simp
     ·refine ⟨.bool true,rfl,?_⟩
      have hr4:=hr3.put (dst:=some 24) (show (24:Nat) < 114 by omega) (.bool true);refine chain_wp (K:=fun σ=>Fits σ (K.st [(0,.ptr 1001 1 K.pre.length),(14,iv K.m),(15,iv i),(25,bov false)])) ?_ _ _ [] [] _ _ ?_ hr4
      ·intro σ a w4 hf hr
       refine aw_run (hr.fits hf) (K.st [(0,.ptr 1001 1 K.pre.length),(14,iv K.m),(15,iv i)]) ?_ fun a w5 hr=>?_
       ·go_simp
       refine aw_run hr (K.st [(0,.ptr 1001 1 K.pre.length),(14,iv K.m),(15,iv (i + 1:Nat))]) ?_ fun a w6 hr=>?_
       ·go_simp;go_bits
        trivial
       obtain ⟨hW6,hF6⟩:=Kx.back hK hW3 hr rfl rfl;have hE6:=hF6.env (by simp) hE3;exact ihr (i + 1) a w6 (by omega) (hL3.keep hF6) hW6 hE6 (Kx.again hK hr rfl hW6 hE6)
      ·go_simp
 exact key K.m 0 _ _ (by omega) hL0 hW1 hE1 hr
end
structure PT where
 e:KX
 p:It.KV
 S1:List Nat
 S2:List Nat
def PT.S (t:PT):List Nat:=t.S1 ++ t.S2
def PT.ok (Z:Nat→Prop) (w:World) (t:PT):Prop:=t.e.kb=t.p.1.enc∧TWi Z w t.p.1 (qv t.e.q1) t.S1∧TWi Z w t.p.2 (qv t.e.q2) t.S2
def MtP (ys:List It) (QL:List Qd) (L:List KX) (n:Nat):Prop:=∀ t,t < n→∃ e y q r,L[t]?=some e∧ys[2 * t]?=some y∧QL[2 * t]?=some q∧QL[2 * t + 1]?=some r∧e.kb=y.enc∧e.q1=q∧e.q2=r
theorem pts_of {Z:Nat→Prop} {w:World}:∀ (n:Nat) (ys:List It) (QL:List Qd) (L:List KX) (S:List Nat),ys.length=2 * n→QL.length=2 * n→L.length=n→MtP ys QL L n→TWl Z w ys (QL.flatMap qv) S→∃ T:List PT,T.map PT.e=L∧T.map PT.p=It.pairsK ys∧T.flatMap PT.S=S∧∀ t ∈ T,t.ok Z w
 | 0,ys,QL,L,S,h1,h2,h3,hm,h=>by
   obtain rfl:ys=[]:=List.length_eq_zero_iff.1 h1;obtain rfl:L=[]:=List.length_eq_zero_iff.1 h3;unfold TWl at h;rw [h.2];exact ⟨[],rfl,rfl,rfl,fun t ht=>by cases ht⟩
 | n + 1,ys,QL,L,S,h1,h2,h3,hm,h=>by
   match ys,QL,L,h1,h2,h3 with
   | y :: z :: ys,q :: r :: QL,e :: L,h1,h2,h3=>
     have h1:ys.length=2 * n:=by simp at h1;omega
     have h2:QL.length=2 * n:=by simp at h2;omega
     have h3:L.length=n:=by simpa using h3
     obtain ⟨e',y',q',r',a1,a2,a3,a4,a5,a6,a7⟩:=hm 0 (by omega);simp at a1 a2 a3 a4;subst a1 a2 a3 a4;unfold TWl at h;obtain ⟨v1,v2,S1,S2,b1,rfl,b2,b3⟩:=h;unfold TWl at b3;obtain ⟨v3,v4,S3,S4,rfl,rfl,b4,b5⟩:=b3;rw [List.flatMap_cons,List.flatMap_cons] at b1;obtain ⟨c1,c2⟩:=List.append_inj b1 (by rw [qv_len,b2.len]);obtain ⟨c3,c4⟩:=List.append_inj c2 (by rw [qv_len,b4.len]);subst c1 c3 c4;obtain ⟨T,t1,t2,t3,t4⟩:=pts_of n ys QL L S4 h1 h2 h3 (fun t ht=>by
      obtain ⟨e',y',q',r',a1,a2,a3,a4,a5⟩:=hm (t + 1) (by omega);have i1:2 * (t + 1)=2 * t + 1 + 1:=by omega
      rw [i1] at a2 a3 a4;simp at a1 a2 a3 a4;exact ⟨e',y',q',r',a1,a2,a3,a4,a5⟩) b5
     refine ⟨⟨e,(y,z),S1,S3⟩ :: T,by simp [t1],by simp [t2,It.pairsK],by simp [t3,PT.S],fun t ht=>?_⟩;rcases List.mem_cons.1 ht with rfl | ht
     ·refine ⟨a5,?_,?_⟩
      ·rw [a6];exact b2
      ·rw [a7];exact b4
     ·exact t4 t ht
theorem perm_lift {α β:Type} {f:α→β} {L' L:List β} (h:L'.Perm L):∀ T:List α,T.map f=L→∃ T':List α,T'.Perm T∧T'.map f=L':=by
 induction h with
 | nil=>intro T hT;exact ⟨[],by rw [List.map_eq_nil_iff.1 hT],rfl⟩
 | cons x _ ih=>
   intro T hT
   match T,hT with
   | a :: T,hT=>
     obtain ⟨h1,h2⟩:=List.cons.inj hT;obtain ⟨T',p,e⟩:=ih T h2;exact ⟨a :: T',p.cons a,by rw [List.map_cons,e,h1]⟩
 | swap x y l=>
   intro T hT
   match T,hT with
   | a :: b :: T,hT=>
     obtain ⟨h1,h2⟩:=List.cons.inj hT;obtain ⟨h2,h3⟩:=List.cons.inj h2;exact ⟨b :: a :: T,.swap a b T,by rw [List.map_cons,List.map_cons,h1,h2,h3]⟩
 | trans _ _ ih1 ih2=>
   intro T hT;obtain ⟨T2,p2,e2⟩:=ih2 T hT;obtain ⟨T1,p1,e1⟩:=ih1 T2 e2;exact ⟨T1,p1.trans p2,e1⟩
theorem twl_pt {Z:Nat→Prop} {w:World}:∀ T:List PT,(∀ t ∈ T,t.ok Z w)→TWl Z w (It.flatK (T.map PT.p)) ((T.map PT.e).flatMap fun e=>qv e.q1 ++ qv e.q2) (T.flatMap PT.S)
 | [],_=>by unfold It.flatK TWl;exact ⟨rfl,rfl⟩
 | t :: T,h=>by
   have ih:=twl_pt T fun s hs=>h s (List.mem_cons_of_mem _ hs)
   obtain ⟨_,h1,h2⟩:=h t (List.mem_cons_self ..)
   show TWl Z w (t.p.1 :: t.p.2 :: It.flatK (T.map PT.p)) _ _
   unfold TWl;refine ⟨qv t.e.q1,qv t.e.q2 ++ ((T.map PT.e).flatMap fun e=>qv e.q1 ++ qv e.q2),t.S1,t.S2 ++ T.flatMap PT.S,by simp,by simp [PT.S],h1,?_⟩;unfold TWl;exact ⟨_,_,_,_,rfl,rfl,h2,ih⟩
theorem PT.ok.keep {Z:Nat→Prop} {w w':World} {t:PT} (h:t.ok Z w) (hu:U8 w w') (hS:∀ b ∈ t.S,w'.heap[b]?=w.heap[b]?):t.ok Z w':=
 ⟨h.1,TWi.keep hu _ (fun b hb=>hS b (by simp [PT.S,hb])) h.2.1,TWi.keep hu _ (fun b hb=>hS b (by simp [PT.S,hb])) h.2.2⟩
theorem adj_ltX:∀ {L:List KX},(L.Pairwise fun a b=>It.cmpB a.kb b.kb≤0)→(∀ i (h:i + 1 < L.length),L[i].kb≠L[i + 1].kb)→L.Pairwise fun a b=>It.cmpB a.kb b.kb < 0
 | [],_,_=>List.Pairwise.nil
 | [a],_,_=>List.pairwise_singleton _ _
 | a :: b :: L,h,hn=>by
   obtain ⟨h1,h2⟩:=List.pairwise_cons.1 h;have ih:=adj_ltX h2 fun i hi=>hn (i + 1) (by simp only [List.length_cons] at *;omega)
   refine List.pairwise_cons.2 ⟨fun c hc=>?_,ih⟩;have hab:It.cmpB a.kb b.kb < 0:=by
    have h3:=h1 b (by simp);have h4:It.cmpB a.kb b.kb≠0:=fun e=>hn 0 (by simp) (It.cmpB_eq e)
    omega
   rcases List.mem_cons.1 hc with rfl | hc
   ·exact hab
   ·exact It.cmp_lt_le hab ((List.pairwise_cons.1 h2).1 c hc)
theorem map_once {Z:Nat→Prop} {w:World} {ys:List It} {T:List PT} (hp:(T.map PT.p).Perm (It.pairsK ys)) (hok:∀ t ∈ T,t.ok Z w) (hs:(T.map PT.e).Pairwise fun a b=>It.cmpB a.kb b.kb≤0) (hn:∀ i (h:i + 1 < (T.map PT.e).length),(T.map PT.e)[i].kb≠(T.map PT.e)[i + 1].kb):It.mapC ys=some (It.flatK (T.map PT.p)):=by
 have hlt:=adj_ltX hs hn;have hk:(T.map PT.p).Pairwise It.klt:=by
  rw [List.pairwise_map] at hlt ⊢;refine hlt.imp_of_mem fun {a b} ha hb hab=>?_
  unfold It.klt It.key;rw [← (hok a ha).1,← (hok b hb).1];exact hab
 have hsu:=It.sort_uniq hp hk;unfold It.mapC;rw [← hsu,if_pos ((It.asc_none _).2 hk)]
theorem map_twice {Z:Nat→Prop} {w:World} {ys:List It} {T:List PT} (hp:(T.map PT.p).Perm (It.pairsK ys)) (hok:∀ t ∈ T,t.ok Z w) {i:Nat} (hi:i + 1 < (T.map PT.e).length) (he:(T.map PT.e)[i].kb=(T.map PT.e)[i + 1].kb):It.mapC ys=none:=by
 unfold It.mapC;rw [if_neg];intro ha;have hnd:=(It.asc_sort _).1 ha;have hn2:=((hp.map It.key).nodup_iff).2 hnd;rw [List.map_map] at hn2;have hl:(T.map PT.e).length=T.length:=by simp
 refine absurd ?_ (List.pairwise_iff_getElem.1 hn2 i (i + 1) (by simp;omega) (by simp;omega) (by omega));simp only [List.getElem_map,Function.comp] at he ⊢;unfold It.key;rw [← (hok _ (List.getElem_mem (show i < T.length by omega))).1,← (hok _ (List.getElem_mem (show i + 1 < T.length by omega))).1];exact he
abbrev kxc (e:KX):List SV:=[bsl e.kb,.v (.int .i64 e.q1.k),.v (.int .u64 e.q1.n),.v (.slice e.q1.A.ab e.q1.A.nb e.q1.A.cb),.v (.slice e.q1.A.ai e.q1.A.ni e.q1.A.ci),.v (.int .i64 e.q2.k),.v (.int .u64 e.q2.n),.v (.slice e.q2.A.ab e.q2.A.nb e.q2.A.cb),.v (.slice e.q2.A.ai e.q2.A.ni e.q2.A.ci)]
def kxL:List KX→List SV
 | []=>[]
 | e :: l=>kxc e ++ kxL l
section
variable (l:List KX) (e:KX) (n i:Nat)
@[go_sem] theorem kxL_nil:kxL []=[]:=rfl
theorem kxL_cons:kxL (e :: l)=kxc e ++ kxL l:=rfl
@[go_sem] theorem kxL_len:(kxL l).length=l.length * 9:=by
 induction l with
 | nil=>rfl
 | cons x l ih=>rw [kxL_cons,List.length_append,ih];simp;omega
theorem kxL_drop (h:i < l.length):(kxL l).drop (i * 9)=kxc l[i] ++ kxL (l.drop (i + 1)):=by
 induction l generalizing i with
 | nil=>simp at h
 | cons y l ih=>
   rw [kxL_cons];cases i with
   | zero=>simp
   | succ i=>
     have e:(i + 1) * 9=(kxc y).length + i * 9:=by simp;omega
     rw [e,List.drop_append,List.drop_eq_nil_of_le (by simp),List.nil_append];simpa using ih i (by simpa using h)
@[go_sem] theorem kxL_sub (h:i < l.length):sub (kxL l) i 9=kxc l[i]:=by
 unfold sub;rw [kxL_drop l i h]
 rfl
end
def Qd.zero:Qd:=⟨0,0,⟨.none,0,0,.none,0,0⟩⟩
def pxAt (ys:List It) (QL:List Qd) (t:Nat):Px:=⟨((ys[2 * t]?).getD It.none).enc,(QL[2 * t]?).getD Qd.zero,(QL[2 * t + 1]?).getD Qd.zero⟩
def pxs (ys:List It) (QL:List Qd) (j:Nat):List Px:=(List.range j).map (pxAt ys QL)
@[go_sem] theorem pxs_zero (ys:List It) (QL:List Qd):pxs ys QL 0=[]:=rfl
@[go_sem] theorem pxs_len (ys:List It) (QL:List Qd) (j:Nat):(pxs ys QL j).length=j:=by simp [pxs]
theorem pxs_succ (ys:List It) (QL:List Qd) (j:Nat):pxs ys QL (j + 1)=pxs ys QL j ++ [pxAt ys QL j]:=by simp [pxs,List.range_succ]
theorem TWl.at {Z:Nat→Prop} {w:World} {ys:List It} {QL:List Qd} {S:List Nat} (h:TWl Z w ys (QL.flatMap qv) S) (hn:S.Nodup) (hl:QL.length=ys.length) {i:Nat} (hi:i < ys.length):∃ Sx,TWi Z w ys[i] (qv (QL[i]'(by omega))) Sx:=by
 have hsp:ys=ys.take i ++ ys[i] :: ys.drop (i + 1):=by rw [← List.drop_eq_getElem_cons hi,List.take_append_drop]
 rw [hsp] at h;obtain ⟨q,S1,Sx,S3,hq,_,hx,_⟩:=h.mid (by rw [List.length_take,List.length_drop];omega) hn;rw [List.length_take,Nat.min_eq_left (by omega),List.getElem?_eq_getElem (by omega)] at hq;rw [← Option.some.inj hq] at hx;exact ⟨Sx,hx⟩
theorem qL_dt {l:List Qd} {T:List SV} {i:Nat} (h:i < l.length):((qL l ++ T).drop (i * 4)).take 4=qs l[i]:=by
 rw [List.drop_append_of_le_length (by rw [qL_len];omega),qL_drop l i h,List.append_assoc]
 rfl
section
variable {K:Kx} (hK:K.Ok)
include hK
set_option maxHeartbeats 8000000 in
theorem phA {Z:Nat→Prop} {w1:World} {ys:List It} {S':List Nat} (hk5:K.k=5) (hT:TWl Z w1 ys (K.QL.flatMap qv) S') (hn:S'.Nodup) (hZ:∀ b,Z b→b < w1.heap.size∧b≠K.d∧b≠K.blk) (hyl:ys.length=K.m) (hev:K.m % 2=0) (hm4:K.m≤1000) (hval:∀ y ∈ ys,y.valid=true) (hW:K.W w1) (hE:Env w1) {Post:Exit→Act→World→Prop}
 (hnext:∀ a w ver u,Rel (XB w1 K.d K.blk) (K.en w1) ⟨[(0,.ptr 1001 1 K.pre.length),(4,.own 900 ver (K.m / 2) 9)],[(900,⟨ver,94,9,pL w1.heap.size (pxs ys K.QL (K.m / 2))⟩),(1000,K.r0),(1001,K.r1)],u,[],114⟩ a w→(sB (sB (sB (sB (sB k102))))).wp Tryd.prog Post a w)
 {a:Act} (hr:Rel (XB w1 K.d K.blk) (K.en w1) (K.st [(0,.ptr 1001 1 K.pre.length)]) a w1):(sB (sB k102)).wp Tryd.prog Post a w1:=by
 have hi:=hK.hi;have hm:=hK.hm;refine wp_seq ?_;refine aw_run hr (K.st [(0,.ptr 1001 1 K.pre.length)]) ?_ fun a w hr=>?_
 ·go_simp
  omega
 refine wp_seq ?_;refine aw_run hr (K.st [(0,.ptr 1001 1 K.pre.length),(4,.v (.slice none 0 0))]) ?_ fun a w hr=>?_
 ·go_simp
 refine wp_seq ?_;refine aw_gen hr (fun en τ=>en=.normal∧∃ ver u,Fits τ ⟨[(0,.ptr 1001 1 K.pre.length),(4,.own 900 ver (K.m / 2) 9)],[(900,⟨ver,94,9,pL w1.heap.size (pxs ys K.QL (K.m / 2))⟩),(1000,K.r0),(1001,K.r1)],u,[],114⟩) (sqc ?_) fun en τ a w ⟨he,ver,u,hf⟩ hr=>?_
 ·go_simp
  refine blk ?_;refine lp (α:=Nat × Nat × Nat) (fun x=>2 * x.2.2≤K.m) (fun x=>⟨[(0,.ptr 1001 1 K.pre.length),(4,.own 900 x.2.1 x.2.2 9),(5,iv (2 * x.2.2:Nat))],[(900,⟨x.2.1,94,9,pL w1.heap.size (pxs ys K.QL x.2.2)⟩),(1000,K.r0),(1001,K.r1)],x.1,[],114⟩) (fun x=>K.m - 2 * x.2.2) [(4,900,94,9)] [(4,900,94,9)] (3,2,0) ?_ ?_
  ·go_simp
   skip
  ·rintro ⟨u,ver,j⟩ hj
   replace hj:2 * j≤K.m:=hj
   dsimp only
   refine gw ?_;go_simp
   refine ⟨by omega,?_⟩;refine ifd (fun h=>?_) (fun h=>?_) <;> go_simp
   ·go_bits
    have hj2:2 * j < K.QL.length:=by omega
    have hj3:2 * j + 1 < K.QL.length:=by omega
    rw [qL_dt hj2];obtain ⟨Sx,hx⟩:=hT.at hn (by omega) (i:=2 * j) (by omega);have hen:=encX_c hE ⟨hK.hd.1,hK.hd.2.1⟩ hZ hx (hval _ (List.getElem_mem _));refine ⟨by omega,by omega,by omega,?_⟩;refine cl [] [] hen (by go_simp) ?_;rintro r rows ⟨rfl,rfl⟩;go_simp
    have e1:((qL K.QL ++ K.tl.map SV.v).drop (2 * j * 4)).take 4=qs K.QL[2 * j]:=qL_dt hj2;have e2:((qL K.QL ++ K.tl.map SV.v).drop ((2 * j + 1) * 4)).take 4=qs K.QL[2 * j + 1]:=qL_dt hj3;have e3:2 * j * 4 + 4≤K.m * 4 + K.tl.length:=by omega
    have e4:(2 * j + 1) * 4 + 4≤K.m * 4 + K.tl.length:=by omega
    have ea:(2 * (j:Int)).toNat=2 * j:=by omega
    have eb:IntKind.i64.wrap (2 * (j:Int) + 1)=2 * (j:Int) + 1:=Go.IntWalk.i64_in _ (by omega);have ec:(2 * (j:Int) + 1).toNat=2 * j + 1:=by omega
    have ed:(0:Int)≤2 * (j:Int):=by omega
    have ee:(0:Int)≤2 * (j:Int) + 1∧2 * (j:Int) + 1 < (K.m:Int):=by omega
    have ef:K.pre.length + 3 + 1≤K.pre.length + (4 + K.post.length):=by omega
    refine rg hmx (by kernel_rfl) ?_;go_simp
    refine ⟨⟨by rw [show Tryd.t94.bytes=152 from rfl];omega,by omega⟩,by kernel_rfl,u + 1 + 1,u + 1,j + 1,by omega,by omega,Nat.le_refl _,⟨⟨rfl,rfl⟩,by rw [Go.IntWalk.i64_in _ (by omega)];omega⟩,rfl,?_⟩;rw [pxs_succ,← pL_app];congr 1
    unfold pxAt;rw [List.getElem?_eq_getElem hj2,List.getElem?_eq_getElem hj3,List.getElem?_eq_getElem (show 2 * j < ys.length by omega)]
    rfl
   ·obtain rfl:j=K.m / 2:=by omega
    exact ⟨⟨u,Nat.le_refl _⟩,ver,⟨rfl,rfl⟩,rfl,rfl⟩
 ·subst he
  exact hnext a w ver u (hr.fits hf)
end
end Go.Proofs.YtelefkkkccilaaaDoor
