/- What LP holds besides. -/
import Derived.Test.YtelefkkkccilaaaGreatDoorLP
import Derived.Test.YtelefkkkccilaaaGreatDoorLJ9
set_option linter.all false
namespace Go.Proofs.YtelefkkkccilaaaGreatDoor
open Go.ChangeShapes Go.WideShapes Go.ChangeAt Go.RowKit Go.Joins
theorem cells26:Tryz.prog.cellsOf 26=4:=by kernel_rfl
theorem cells24:Tryz.prog.cellsOf 24=1:=by kernel_rfl
theorem cells23:Tryz.prog.cellsOf 23=1:=by kernel_rfl
theorem cells22:Tryz.prog.cellsOf 22=1:=by kernel_rfl
theorem cells5:Tryz.prog.cellsOf 5=1:=by kernel_rfl
theorem br_of {H:Type} {enc:TypeId × Value→H} {w:World} {base:Nat} {spare:Nat→Bool} {held:Bool} {fuel:Nat} {v:Value} {x:DataW H × List MemPlace} (h:DataW.trod enc Tryz.prog w base spare held fuel 23 [v]=some x):
 ∃ (a:Option Addr) (n c:Nat) (l:List UInt8),v=.slice a n c∧BR (fun b=>b < w.heap.size) w a n l∧n≤c∧c≤9223372036854775807:=by
 rcases open_ints Tryz.underlying23 Tryz.underlying5 cells5 h with ⟨hcs,_⟩ | ⟨a,n,c,zs,hcs,_,hl,hm,hz,_,hcell,hwz⟩
 ·simp only [List.cons.injEq,and_true] at hcs
  subst hcs;exact ⟨none,0,0,[],rfl,BR.nil _ _ _,Nat.le_refl _,by omega⟩
 ·simp only [List.cons.injEq,and_true] at hcs
  subst hcs;have hm:c≤9223372036854775807:=by unfold maxLen at hm;omega
  have hzn:n≤zs.length:=by split at hz <;> omega
  refine ⟨some a,n,c,(zs.take n).map fun z=>UInt8.ofNat z.toNat,rfl,⟨by simp;omega,by omega,fun i hi=>?_⟩,hl,hm⟩;have hi:i < n:=by simp at hi;omega
  have hiz:i < zs.length:=by omega
  have hc:=hcell i hiz;obtain ⟨b,o,spot⟩:=a;have hspot:spot=none:=by simpa [Addr.add] using World.cell?_spot (hcell 0 (by omega))
  subst hspot;rw [add_at] at hc;refine ⟨b,o,rfl,lg hc,?_⟩;rw [hc];have hb:=bounds_u8 (hwz _ (List.getElem_mem hiz));simp [hiz];omega
def Reads (w:World) (cs:List Value) (x:It):Prop:=∃ A:Ad,cs=[.int .i64 x.kind,.int .u64 (x.num:Int),.slice A.ab A.nb A.cb,.slice A.ai A.ni A.ci]∧IR (fun b=>b < w.heap.size) w x A
theorem tl_of {H:Type} {enc:TypeId × Value→H} {w:World} {base:Nat} {spare:Nat→Bool} {held:Bool} {fuel m:Nat} {v:Value} {x:DataW H × List MemPlace} (hfm:fuel≤m + 1)
 (ih:∀ (fuel:Nat),fuel≤m→∀ (cs:List Value) (x:DataW H × List MemPlace),DataW.trod enc Tryz.prog w base spare held fuel 26 cs=some x→∃ t,Reads w cs t)
 (h:DataW.trod enc Tryz.prog w base spare held fuel 24 [v]=some x):
 ∃ (a:Option Addr) (n c:Nat) (l:List It),v=.slice a n c∧TL (fun b=>b < w.heap.size) w l a n∧n≤c∧c≤9223372036854775807:=by
 rcases DataW.trod_slice Tryz.underlying24 h with ⟨e2,_⟩ | ⟨a,len,cap,elems,rest,n2,en,e2,_,_,hlc,hcm,hel,hcells,_,_⟩
 ·simp only [List.cons.injEq,and_true] at e2
  subst e2;exact ⟨none,0,0,[],rfl,TL.nil _ _ _,Nat.le_refl _,by omega⟩
 ·simp only [List.cons.injEq,and_true] at e2
  subst e2;rw [cells26] at hcells;have hsp:0 < len→a.spot=none:=by
   intro hi;have hc:=hcells 0 hi;have hei:elems[0]?=some (elems[0]'(by omega)):=List.getElem?_eq_getElem (by omega);rw [hei] at hc;obtain ⟨csi,hcs,_⟩:=Option.bind_eq_some_iff.1 hc;unfold World.cells? at hcs
   split at hcs
   ·obtain ⟨u0,_,k0⟩:=Lib.mapM_at hcs 0 0 rfl
    have:=World.cell?_spot k0;simpa [Addr.add] using this
   ·cases hcs
  have hone:∀ i,i < len→∃ (t:It),EL (fun b=>b < w.heap.size) w t (some a) i:=by
   intro i hi;have hc:=hcells i hi;have hei:elems[i]?=some (elems[i]'(by omega)):=List.getElem?_eq_getElem (by omega);rw [hei] at hc;obtain ⟨csi,hcs,htr⟩:=Option.bind_eq_some_iff.1 hc;obtain ⟨t,A,rfl,hI⟩:=ih n2 (by omega) csi _ htr;unfold World.cells? at hcs
   split at hcs
   ·obtain ⟨u0,g0,k0⟩:=Lib.mapM_at hcs 0 0 rfl
    obtain ⟨u1,g1,k1⟩:=Lib.mapM_at hcs 1 1 rfl;obtain ⟨u2,g2,k2⟩:=Lib.mapM_at hcs 2 2 rfl;obtain ⟨u3,g3,k3⟩:=Lib.mapM_at hcs 3 3 rfl;simp at g0 g1 g2 g3;subst g0 g1 g2 g3;obtain ⟨bl,off,spot⟩:=a;have hspot:spot=none:=hsp (by omega);subst hspot;rw [add_at,add_at] at k0 k1 k2 k3;exact ⟨t,bl,off,A,rfl,lg k0,⟨k0,k1,k2,k3⟩,hI⟩
   ·cases hcs
  have hall:∀ k,k≤len→∃ ks:List It,ks.length=k∧∀ j (h:j < ks.length),EL (fun b=>b < w.heap.size) w ks[j] (some a) j:=by
   intro k
   induction k with
   | zero=>intro _;exact ⟨[],rfl,fun j h=>by simp at h⟩
   | succ k ihk=>
     intro hk;obtain ⟨ks,hks,hE⟩:=ihk (by omega);obtain ⟨t,ht⟩:=hone k (by omega);refine ⟨ks ++ [t],by simp [hks],fun j h=>?_⟩;by_cases hj:j < ks.length
     ·rw [List.getElem_append_left hj];exact hE j hj
     ·have hjk:j=ks.length:=by simp at h;omega
      subst hjk;rw [List.getElem_append_right (by omega)];simp only [Nat.sub_self,List.getElem_cons_zero];rw [hks];exact ht
  obtain ⟨ks,hks,hE⟩:=hall len (Nat.le_refl _);have hm:cap≤9223372036854775807:=by unfold maxLen at hcm;omega
  exact ⟨some a,len,cap,ks,rfl,⟨hks.symm,by omega,hE⟩,hlc,hm⟩
set_option maxRecDepth 100000 in
theorem reads_of {H:Type} {enc:TypeId × Value→H} {w:World} {base:Nat} {spare:Nat→Bool} {held:Bool}:∀ (m fuel:Nat),fuel≤m→∀ (cs:List Value) (x:DataW H × List MemPlace),DataW.trod enc Tryz.prog w base spare held fuel 26 cs=some x→∃ t,Reads w cs t:=by
 intro m
 induction m with
 | zero=>
   intro fuel hf cs x h;obtain ⟨xs,n,e,_⟩:=DataW.trod_struct Tryz.underlying26 h;omega
 | succ m ih=>
   intro fuel hf cs x h;obtain ⟨xs,n,e,_,hl,hlen,hfs⟩:=DataW.trod_struct Tryz.underlying26 h;rw [cells26] at hl;obtain ⟨v0,v1,v2,v3,rfl⟩:∃ v0 v1 v2 v3,cs=[v0,v1,v2,v3]:=by
    match cs,hl with
    | [v0,v1,v2,v3],_=>exact ⟨v0,v1,v2,v3,rfl⟩
   match xs,hlen with
   | [y0,y1,y2,y3],_=>
     have h0:DataW.trod enc Tryz.prog w base spare held n 3 (List.take (Tryz.prog.cellsOf 3) [v0,v1,v2,v3])=some y0:=hfs 0 _ rfl;have h1:DataW.trod enc Tryz.prog w base spare held n 22 (List.take (Tryz.prog.cellsOf 22) [v1,v2,v3])=some y1:=hfs 1 _ rfl;have h2:DataW.trod enc Tryz.prog w base spare held n 23 (List.take (Tryz.prog.cellsOf 23) [v2,v3])=some y2:=hfs 2 _ rfl;have h3:DataW.trod enc Tryz.prog w base spare held n 24 (List.take (Tryz.prog.cellsOf 24) [v3])=some y3:=hfs 3 _ rfl;rw [cells3] at h0;rw [cells22] at h1;rw [cells23] at h2;rw [cells24] at h3;have h0':DataW.trod enc Tryz.prog w base spare held n 3 [v0]=some y0:=h0;have h1':DataW.trod enc Tryz.prog w base spare held n 22 [v1]=some y1:=h1;have h2':DataW.trod enc Tryz.prog w base spare held n 23 [v2]=some y2:=h2;have h3':DataW.trod enc Tryz.prog w base spare held n 24 [v3]=some y3:=h3;clear h0 h1 h2 h3 hfs;obtain ⟨op,e0,_,_⟩:=DataW.trod_int Tryz.underlying3 h0';obtain ⟨num,e1,_,wn⟩:=DataW.trod_int Tryz.underlying22 h1';simp only [List.cons.injEq,and_true] at e0 e1;subst e0 e1;have hb:=bounds_u64 wn;obtain ⟨a2,n2,c2,l2,rfl,hR,hc2,hm2⟩:=br_of h2';obtain ⟨a3,n3,c3,l3,rfl,hT,hc3,hm3⟩:=tl_of (m:=m) (by omega) ih h3';refine ⟨.mk op num.toNat l2 l3,⟨a2,n2,c2,a3,n3,c3⟩,?_,IR_iff.2 ⟨by show num.toNat < _;omega,⟨hR,hc2,hm2⟩,hT,hc3,hm3⟩⟩;have:(num.toNat:Int)=num:=by omega
     simp only [It.kind,It.num,this]
theorem items_of {H:Type} {enc:TypeId × Value→H} {w:World} {base:Nat} {spare:Nat→Bool} {held:Bool} {fuel:Nat} {v:Value} {x:DataW H × List MemPlace} (h:DataW.trod enc Tryz.prog w base spare held fuel 24 [v]=some x):
 ∃ (a:Option Addr) (n c:Nat) (l:List It),v=.slice a n c∧TL (fun b=>b < w.heap.size) w l a n∧n≤c∧c≤9223372036854775807:=
 tl_of (m:=fuel) (by omega) (fun f hf=>reads_of fuel f hf) h
end Go.Proofs.YtelefkkkccilaaaGreatDoor
namespace Go.Proofs.YtelefkkkccilaaaGreatDoor
open Go.Shelf Go.RowKit
theorem bulk_all {H:Type}:∀ l:List (DataW H),l.length≤Rows.uptoBulkAll l
 | []=>Nat.zero_le _
 | x :: r=>by
   have h1:=bulk_all r;have h2:1≤Rows.uptoBulk x:=by
    cases x with
    | lit l=>cases l <;> simp [Rows.uptoBulk]
    | _=>simp [Rows.uptoBulk]
   simp only [Rows.uptoBulkAll,List.length_cons];omega
theorem bulk_slice {H:Type} (e s:List (DataW H)):e.length≤Rows.uptoBulk (.slice e s):=by
 have:=bulk_all e;simp only [Rows.uptoBulk];omega
theorem bulk_mem {H:Type}:∀ {l:List (DataW H)} {d:DataW H},Rows.uptoBulkAll l≤1048576→d ∈ l→Rows.uptoBulk d≤1048576
 | x :: r,d,h,hd=>by
   simp only [Rows.uptoBulkAll] at h;rcases List.mem_cons.1 hd with rfl | hd
   ·omega
   ·exact bulk_mem (by omega) hd
theorem small_mem {H:Type} {l:List (DataW H)} {d:DataW H} (h:Rows.uptoSmall H l=true) (hd:d ∈ l):Rows.uptoBulk d≤1048576:=bulk_mem (of_decide_eq_true h) hd
open Go.ChangeShapes Go.WideShapes Go.ChangeAt in
theorem br_small {H:Type} {enc:TypeId × Value→H} {w:World} {base:Nat} {spare:Nat→Bool} {held:Bool} {fuel:Nat} {v:Value} {d:DataW H} {ps:List MemPlace} (h:DataW.trod enc Tryz.prog w base spare held fuel 23 [v]=some (d,ps)):
 ∃ (a:Option Addr) (n c:Nat) (l:List UInt8),v=.slice a n c∧BR (fun b=>b < w.heap.size) w a n l∧n≤c∧c≤9223372036854775807∧n≤Rows.uptoBulk d:=by
 obtain ⟨a,n,c,l,rfl,h1,h2,h3⟩:=br_of h;refine ⟨a,n,c,l,rfl,h1,h2,h3,?_⟩;rcases open_ints Tryz.underlying23 Tryz.underlying5 cells5 h with ⟨hcs,_⟩ | ⟨a',n',c',zs,hcs,_,hl,hm,hz,hx,_,_⟩
 ·simp only [List.cons.injEq,and_true] at hcs
  cases hcs;exact Nat.zero_le _
 ·simp only [List.cons.injEq,and_true] at hcs
  cases hcs
  have hd:=(Prod.mk.inj hx).1;have hzn:n≤zs.length:=by split at hz <;> omega
  rw [hd];refine Nat.le_trans ?_ (bulk_slice _ _);simp [lits];omega
theorem str_small {H:Type} {s:ByteArray} (h:Rows.uptoBulk (DataW.lit (H:=H) (.string s.data.toList))≤1048576):s.data.toList.length≤1048576:=by
 simp only [Rows.uptoBulk] at h;omega
theorem str_form (s:ByteArray):s=⟨s.data.toList.toArray⟩:=by cases s;simp
