/- append(x, make([]byte, n)...): zeros appended to bytes of one's own. -/
import Derived.Test.YtelefkkkccilaaaDoorLB
set_option linter.unusedVariables false
set_option linter.unusedSimpArgs false
namespace Go.Proofs.YtelefkkkccilaaaDoor
open Go.RowKit
set_option maxRecDepth 100000
theorem zero_cells (n:Nat):(Builtin.zeroCells #[Value.int .u8 0] n).toList=List.replicate n (Value.int .u8 0):=by
 unfold Builtin.zeroCells;apply List.ext_getElem
 ·simp
 ·intro i h1 h2
  simp at h1 h2 ⊢;have:i % 1=0:=Nat.mod_one i;simp [this]
theorem under3:Tryd.prog.underlying 3=some (.int .i64):=by kernel_rfl
theorem run_zeros_room (w:World) (g sLen sCap n:Nat) (N:Int) (hN:N=n) (cur:Array Value) (hg:w.heap[g]?=some (.cells cur 5 (0,0))) (hn:n≤1000000000) (hroom:sLen + n≤sCap) (hfit:sLen + n≤cur.size):
 (Builtin.append_ #[23,3] 23 #[.slice (some ⟨g,0,none⟩) sLen sCap,.int .i64 N]).run Tryd.prog w=.ok (.slice (some ⟨g,0,none⟩) (sLen + n) sCap) (w.setRow g (cur.toList.take sLen ++ List.replicate n (Value.int .u8 0) ++ cur.toList.drop (sLen + n)).toArray):=by
 obtain ⟨i0,hi,hz0,hz1,hz2⟩:=info_parts inf5;have hw:IntKind.i64.wrap N=N:=IntWalk.i64_in _ (by omega);have h0:¬ N < 0:=by omega
 have h48:¬ (281474976710656 < N):=by omega
 have hst:=run_storeCells_at Tryd.prog g sLen 5 (List.replicate n (Value.int .u8 0)) 0 cur w hg (by simpa using hfit) (fun u hu=>by rw [List.eq_of_mem_replicate hu];rfl);simp only [Nat.add_zero] at hst;have hnt:N.toNat=n:=by omega
 by_cases hz:n=0
 ·subst hz
  have h3:N≤0:=by omega
  simp at hst;simp [Builtin.append_,run_underlying Tryd.underlying23,run_underlying under3,sizeOf,typeInfo,zeroValue,hi,hz0,hz1,hz2,asInt,asIntOf,hw,h0,h48,hnt,h3,hroom,Addr.add_lit,hst];omega
 ·have h3:¬ N≤0:=by omega
  have hzc:=zero_cells n;simp at hst;simp [Builtin.append_,run_underlying Tryd.underlying23,run_underlying under3,sizeOf,typeInfo,zeroValue,hi,hz0,hz1,hz2,asInt,asIntOf,hw,h0,h48,hnt,h3,hroom,Addr.add_lit,Value.cells,hzc,hst];exact fun h=>absurd h hz
theorem run_zeros_grow (w:World) (b:Addr) (sLen sCap n:Nat) (N:Int) (hN:N=n) (olds:List Value) (hlo:olds.length=sLen) (holds:∀ j v,olds[j]?=some v→w.cell? (b.add j)=some v) (hn:sLen + n≤1000000000) (hg:sCap < sLen + n):
 (Builtin.append_ #[23,3] 23 #[.slice (some b) sLen sCap,.int .i64 N]).run Tryd.prog w=.ok (.slice (some ⟨w.heap.size,0,none⟩) (sLen + n) (grownCap w (sLen + n) sCap 5)) (w.drew.alloc (.cells (olds.toArray ++ (List.replicate n (Value.int .u8 0)).toArray ++ Builtin.zeroCells #[Value.int .u8 0] (grownCap w (sLen + n) sCap 5 - (sLen + n))) 5)):=by
 obtain ⟨i0,hi,hz0,hz1,hz2⟩:=info_parts inf5;have hw:IntKind.i64.wrap N=N:=IntWalk.i64_in _ (by omega);have h0:¬ N < 0:=by omega
 have h48:¬ (281474976710656 < N):=by omega
 have hnt:N.toNat=n:=by omega
 have hroom:¬ sLen + n≤sCap:=by omega
 have h63:¬ (9223372036854775807 < (sLen:Int) + max N 0):=by omega
 have hfit:¬ (281474976710656 < Builtin.nextslicecap (sLen + n) sCap):=by
  have:=growslice_fits (need:=sLen + n) (old:=sCap) (bytes:=1) hg (by omega);omega
 have hfo:=run_firstCells_some (P:=Tryd.prog) w.drew 1 sLen b sLen sCap olds (by omega) (by simpa using holds);by_cases hz:n=0
 ·subst hz
  have h3:N≤0:=by omega
  have hroom0:¬ sLen≤sCap:=by omega
  have hfit0:¬ (281474976710656 < Builtin.nextslicecap sLen sCap):=hfit;simp [Builtin.append_,run_underlying Tryd.underlying23,run_underlying under3,sizeOf,typeInfo,zeroValue,hi,hz0,hz1,hz2,asInt,asIntOf,hw,h0,h48,hnt,h3,h63,hroom0,hfit0,Question.forced,hfo,newRow,grownCap,Value.cells]
 ·have h3:¬ N≤0:=by omega
  have hzc:=zero_cells n;simp [Builtin.append_,run_underlying Tryd.underlying23,run_underlying under3,sizeOf,typeInfo,zeroValue,hi,hz0,hz1,hz2,asInt,asIntOf,hw,h0,h48,hnt,h3,h63,hroom,hfit,Question.forced,hfo,newRow,grownCap,Value.cells];have hza:Builtin.zeroCells #[Value.int .u8 0] n=Array.replicate n (Value.int .u8 0):=Array.ext' (by rw [hzc];simp);rw [if_neg hz,hza]
theorem app_zeros (w:World) (base:Nat) (v:Value) (l:List UInt8) (h:OwnB w base v l) (n:Nat) (N:Int) (hN:N=n) (hsz:l.length + n≤1000000000) (hl0:v≠.slice none 0 0) (hb:base≤w.heap.size):
 ∃ a' c' w',(Builtin.append_ #[23,3] 23 #[v,.int .i64 N]).run Tryd.prog w=.ok (.slice a' (l.length + n) c') w'∧OwnB w' base (.slice a' (l.length + n) c') (l ++ List.replicate n 0)∧w.grownBy w' v.ownBlock:=by
 have hlen:=h.1;rcases h.2 with ⟨e,_⟩ | ⟨g,cap,cur,rfl,hbg,hg,hnc,hcm,hcs,htake⟩
 ·exact absurd e hl0
 have hmap:(l ++ List.replicate n (0:UInt8)).map bv=l.map bv ++ List.replicate n (Value.int .u8 0):=by simp [bv]
 rw [Nat.mul_one] at hcs htake;by_cases hroom:l.length + n≤cap
 ·have hr:=run_zeros_room w g l.length cap n N hN cur hg (by omega) hroom (by omega)
  refine ⟨_,_,_,hr,?_,⟨rfl,rfl,rfl,by simp [World.setRow],fun k _ hk=>setRow_other w g k _ (fun e=>hk (by simp [Value.ownBlock,e]))⟩⟩;refine ⟨by simp,.inr ⟨g,cap,_,by simp,hbg,setRow_heap w g cur _ 5 _ hg,by simpa using hroom,hcm,?_,?_⟩⟩
  ·simp only [List.size_toArray,List.length_append,List.length_take,List.length_drop,Array.length_toList,List.length_replicate]
   omega
  ·rw [htake,hmap]
   simp only [List.length_append,List.length_replicate,Nat.mul_one];rw [List.take_left' (by simp)]
 ·have holds:∀ j u,(l.map bv)[j]?=some u→w.cell? ((⟨g,0,none⟩:Addr).add j)=some u:=World.ownsRow.cells h (g:=g) rfl
  have hr:=run_zeros_grow w ⟨g,0,none⟩ l.length cap n N hN (l.map bv) (by simp) holds hsz (by omega);refine ⟨_,_,_,hr,?_,⟨rfl,rfl,rfl,by simp,fun k hk _=>(al w.drew _).block k hk⟩⟩;have hge:=grownCap_ge w (l.length + n) cap 5;have hcm2:grownCap w (l.length + n) cap 5≤maxLen:=grownCap_le_maxLen w (l.length + n) cap 5 (by unfold maxLen;omega);refine ⟨by simp,.inr ⟨w.heap.size,_,_,by simp,hb,heap_alloc_new w.drew _,by simpa using hge,hcm2,?_,?_⟩⟩
  ·simp only [Array.size_append,List.size_toArray,size_zeroCells,List.length_map,List.length_replicate,List.size_toArray,List.length_singleton]
   omega
  ·simp only [Array.toList_append,List.append_assoc]
   rw [hmap,← List.append_assoc];exact List.take_left' (by simp)
theorem wpList_appz {P:Program} {w w':World} {ops:Array Oper} {rest:List Oper} {o:Oper} {a:Act} {Q:Exit→Act→World→Prop} (hgd:o.guard=none) (s x:Operand) (t u:TypeId) (ho:o.op=.call { callee:=.builtin .append,args:=#[s,x],argTypes:=#[t,u] })
 {vs vx v':Value} (hs:a.eval s=vs) (hx:a.eval x=vx) (hrun:(Builtin.append_ #[t,u] o.type #[vs,vx]).run P w=.ok v' w') (h:wpList P ops Q rest (a.put o.dst v') w'):wpList P ops Q (o :: rest) a w:=
 wpList_plain hgd fun _ hK=>by
  unfold Oper.wp execOp;simp only [ho,resolve,invoke,builtin,Sem.run_bind,Sem.run_pure,Result.andThen_ok,List.map_toArray,List.map_cons,List.map_nil,hs,hx,hrun];exact hK _ _ h
end Go.Proofs.YtelefkkkccilaaaDoor
