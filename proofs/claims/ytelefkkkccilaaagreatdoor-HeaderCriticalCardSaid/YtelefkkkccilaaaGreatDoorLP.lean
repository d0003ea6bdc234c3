/- How items, bytes and numbers that came in read. The two tables of unicode/utf8, off what a row lists; a world that holds them. -/
import Derived.Test.YtelefkkkccilaaaGreatDoorLJ
import Derived.Lib.SmallJoins
import Derived.Lib.LaidU8T
import Derived.MakeChecks
set_option linter.all false
namespace Go.Proofs.YtelefkkkccilaaaGreatDoor
open Go.ChangeShapes Go.WideShapes Go.ChangeAt Go.RowKit Go.Joins
theorem cells26:Tryz.prog.cellsOf 26=4:=by kernel_rfl
theorem cells24:Tryz.prog.cellsOf 24=1:=by kernel_rfl
theorem cells23:Tryz.prog.cellsOf 23=1:=by kernel_rfl
theorem cells22:Tryz.prog.cellsOf 22=1:=by kernel_rfl
theorem cells3:Tryz.prog.cellsOf 3=1:=by kernel_rfl
theorem cells5:Tryz.prog.cellsOf 5=1:=by kernel_rfl
theorem add_at (b o k:Nat):(⟨b,o,none⟩:Addr).add k=⟨b,o + k,none⟩:=by unfold Addr.add;split <;> simp_all
theorem br_of {H:Type} {enc:TypeId × Value→H} {w:World} {base:Nat} {spare:Nat→Bool} {held:Bool} {fuel:Nat} {v:Value} {x:DataW H × List MemPlace} (h:DataW.trod enc Tryz.prog w base spare held fuel 23 [v]=some x):
 ∃ (a:Option Addr) (n c:Nat) (l:List UInt8),v=.slice a n c∧BR (fun b=>b < w.heap.size) w a n l∧n≤c∧c≤9223372036854775807:=by
 rcases open_ints Tryz.underlying23 Tryz.underlying5 cells5 h with ⟨hcs,_⟩ | ⟨a,n,c,zs,hcs,_,hl,hm,hz,_,hcell,hwz⟩
 ·simp only [List.cons.injEq,and_true] at hcs
  subst hcs;exact ⟨none,0,0,[],rfl,BR.nil _ _ _,Nat.le_refl _,by omega⟩
 ·simp only [List.cons.injEq,and_true] at hcs
  subst hcs;have hm:c≤9223372036854775807:=by unfold maxLen at hm;omega
  have hzn:n≤zs.length:=by split at hz <;> omega
  refine ⟨some a,n,c,(zs.take n).map fun z=>UInt8.ofNat z.toNat,rfl,⟨by simp;omega,by omega,fun i hi=>?_⟩,hl,hm⟩;have hi:i < n:=by simp at hi;omega
  have hiz:i < zs.length:=by omega
  have hc:=hcell i hiz;obtain ⟨b,o,spot⟩:=a;have hspot:spot=none:=by simpa [Addr.add] using World.cell?_spot (hcell 0 (by omega))
  subst hspot;rw [add_at] at hc;refine ⟨b,o,rfl,lg hc,?_⟩;rw [hc];have hb:=bounds_u8 (hwz _ (List.getElem_mem hiz));simp [hiz];omega
def Reads (w:World) (cs:List Value) (x:It):Prop:=∃ A:Ad,cs=[.int .i64 x.kind,.int .u64 (x.num:Int),.slice A.ab A.nb A.cb,.slice A.ai A.ni A.ci]∧IR (fun b=>b < w.heap.size) w x A
theorem tl_of {H:Type} {enc:TypeId × Value→H} {w:World} {base:Nat} {spare:Nat→Bool} {held:Bool} {fuel m:Nat} {v:Value} {x:DataW H × List MemPlace} (hfm:fuel≤m + 1)
 (ih:∀ (fuel:Nat),fuel≤m→∀ (cs:List Value) (x:DataW H × List MemPlace),DataW.trod enc Tryz.prog w base spare held fuel 26 cs=some x→∃ t,Reads w cs t)
 (h:DataW.trod enc Tryz.prog w base spare held fuel 24 [v]=some x):
 ∃ (a:Option Addr) (n c:Nat) (l:List It),v=.slice a n c∧TL (fun b=>b < w.heap.size) w l a n∧n≤c∧c≤9223372036854775807:=by
 rcases DataW.trod_slice Tryz.underlying24 h with ⟨e2,_⟩ | ⟨a,len,cap,elems,rest,n2,en,e2,_,_,hlc,hcm,hel,hcells,_,_⟩
 ·simp only [List.cons.injEq,and_true] at e2
  subst e2;exact ⟨none,0,0,[],rfl,TL.nil _ _ _,Nat.le_refl _,by omega⟩
 ·simp only [List.cons.injEq,and_true] at e2
  subst e2;rw [cells26] at hcells;have hsp:0 < len→a.spot=none:=by
   intro hi;have hc:=hcells 0 hi;have hei:elems[0]?=some (elems[0]'(by omega)):=List.getElem?_eq_getElem (by omega);rw [hei] at hc;obtain ⟨csi,hcs,_⟩:=Option.bind_eq_some_iff.1 hc;unfold World.cells? at hcs
   split at hcs
   ·obtain ⟨u0,_,k0⟩:=Lib.mapM_at hcs 0 0 rfl
    have:=World.cell?_spot k0;simpa [Addr.add] using this
   ·cases hcs
  have hone:∀ i,i < len→∃ (t:It),EL (fun b=>b < w.heap.size) w t (some a) i:=by
   intro i hi;have hc:=hcells i hi;have hei:elems[i]?=some (elems[i]'(by omega)):=List.getElem?_eq_getElem (by omega);rw [hei] at hc;obtain ⟨csi,hcs,htr⟩:=Option.bind_eq_some_iff.1 hc;obtain ⟨t,A,rfl,hI⟩:=ih n2 (by omega) csi _ htr;unfold World.cells? at hcs
   split at hcs
   ·obtain ⟨u0,g0,k0⟩:=Lib.mapM_at hcs 0 0 rfl
    obtain ⟨u1,g1,k1⟩:=Lib.mapM_at hcs 1 1 rfl;obtain ⟨u2,g2,k2⟩:=Lib.mapM_at hcs 2 2 rfl;obtain ⟨u3,g3,k3⟩:=Lib.mapM_at hcs 3 3 rfl;simp at g0 g1 g2 g3;subst g0 g1 g2 g3;obtain ⟨bl,off,spot⟩:=a;have hspot:spot=none:=hsp (by omega);subst hspot;rw [add_at,add_at] at k0 k1 k2 k3;exact ⟨t,bl,off,A,rfl,lg k0,⟨k0,k1,k2,k3⟩,hI⟩
   ·cases hcs
  have hall:∀ k,k≤len→∃ ks:List It,ks.length=k∧∀ j (h:j < ks.length),EL (fun b=>b < w.heap.size) w ks[j] (some a) j:=by
   intro k
   induction k with
   | zero=>intro _;exact ⟨[],rfl,fun j h=>by simp at h⟩
   | succ k ihk=>
     intro hk;obtain ⟨ks,hks,hE⟩:=ihk (by omega);obtain ⟨t,ht⟩:=hone k (by omega);refine ⟨ks ++ [t],by simp [hks],fun j h=>?_⟩;by_cases hj:j < ks.length
     ·rw [List.getElem_append_left hj];exact hE j hj
     ·have hjk:j=ks.length:=by simp at h;omega
      subst hjk;rw [List.getElem_append_right (by omega)];simp only [Nat.sub_self,List.getElem_cons_zero];rw [hks];exact ht
  obtain ⟨ks,hks,hE⟩:=hall len (Nat.le_refl _);have hm:cap≤9223372036854775807:=by unfold maxLen at hcm;omega
  exact ⟨some a,len,cap,ks,rfl,⟨hks.symm,by omega,hE⟩,hlc,hm⟩
set_option maxRecDepth 100000 in
theorem reads_of {H:Type} {enc:TypeId × Value→H} {w:World} {base:Nat} {spare:Nat→Bool} {held:Bool}:∀ (m fuel:Nat),fuel≤m→∀ (cs:List Value) (x:DataW H × List MemPlace),DataW.trod enc Tryz.prog w base spare held fuel 26 cs=some x→∃ t,Reads w cs t:=by
 intro m
 induction m with
 | zero=>
   intro fuel hf cs x h;obtain ⟨xs,n,e,_⟩:=DataW.trod_struct Tryz.underlying26 h;omega
 | succ m ih=>
   intro fuel hf cs x h;obtain ⟨xs,n,e,_,hl,hlen,hfs⟩:=DataW.trod_struct Tryz.underlying26 h;rw [cells26] at hl;obtain ⟨v0,v1,v2,v3,rfl⟩:∃ v0 v1 v2 v3,cs=[v0,v1,v2,v3]:=by
    match cs,hl with
    | [v0,v1,v2,v3],_=>exact ⟨v0,v1,v2,v3,rfl⟩
   match xs,hlen with
   | [y0,y1,y2,y3],_=>
     have h0:DataW.trod enc Tryz.prog w base spare held n 3 (List.take (Tryz.prog.cellsOf 3) [v0,v1,v2,v3])=some y0:=hfs 0 _ rfl;have h1:DataW.trod enc Tryz.prog w base spare held n 22 (List.take (Tryz.prog.cellsOf 22) [v1,v2,v3])=some y1:=hfs 1 _ rfl;have h2:DataW.trod enc Tryz.prog w base spare held n 23 (List.take (Tryz.prog.cellsOf 23) [v2,v3])=some y2:=hfs 2 _ rfl;have h3:DataW.trod enc Tryz.prog w base spare held n 24 (List.take (Tryz.prog.cellsOf 24) [v3])=some y3:=hfs 3 _ rfl;rw [cells3] at h0;rw [cells22] at h1;rw [cells23] at h2;rw [cells24] at h3;have h0':DataW.trod enc Tryz.prog w base spare held n 3 [v0]=some y0:=h0;have h1':DataW.trod enc Tryz.prog w base spare held n 22 [v1]=some y1:=h1;have h2':DataW.trod enc Tryz.prog w base spare held n 23 [v2]=some y2:=h2;have h3':DataW.trod enc Tryz.prog w base spare held n 24 [v3]=some y3:=h3;clear h0 h1 h2 h3 hfs;obtain ⟨op,e0,_,_⟩:=DataW.trod_int Tryz.underlying3 h0';obtain ⟨num,e1,_,wn⟩:=DataW.trod_int Tryz.underlying22 h1';simp only [List.cons.injEq,and_true] at e0 e1;subst e0 e1;have hb:=bounds_u64 wn;obtain ⟨a2,n2,c2,l2,rfl,hR,hc2,hm2⟩:=br_of h2';obtain ⟨a3,n3,c3,l3,rfl,hT,hc3,hm3⟩:=tl_of (m:=m) (by omega) ih h3';refine ⟨.mk op num.toNat l2 l3,⟨a2,n2,c2,a3,n3,c3⟩,?_,IR_iff.2 ⟨by show num.toNat < _;omega,⟨hR,hc2,hm2⟩,hT,hc3,hm3⟩⟩;have:(num.toNat:Int)=num:=by omega
     simp only [It.kind,It.num,this]
def InL (w:World) (la:Option Addr) (len:Nat):Prop:=len≤9223372036854775807∧∀ j,j < len→∃ bl ol x,la=some ⟨bl,ol,none⟩∧bl < w.heap.size∧w.cell? ⟨bl,ol + j,none⟩=some (.int .i64 x)
theorem InL.deck {w:World} {la:Option Addr} {len:Nat} (h:InL w la len) (c:Nat):Deck (w.alloc (.cells #[.slice la len c,.int .i64 0] 94)) w.heap.size:=by
 refine ⟨la,len,c,0,aw _ _,Nat.zero_le _,h.1,fun j hj=>?_⟩;obtain ⟨bl,ol,x,e,hb,hc⟩:=h.2 j hj;exact ⟨bl,ol,x,e,hb,((al w _).cell (p:=⟨bl,ol + j,none⟩) hb).trans hc⟩
theorem InL.below {w w':World} {la:Option Addr} {len:Nat} (h:InL w la len) (k:Below w.heap.size w w'):InL w' la len:=
 ⟨h.1,fun j hj=>by
  obtain ⟨bl,ol,x,e,hb,hc⟩:=h.2 j hj;exact ⟨bl,ol,x,e,Nat.lt_of_lt_of_le hb k.size,(k.cell (p:=⟨bl,ol + j,none⟩) hb).trans hc⟩⟩
theorem nums_of {H:Type} {enc:TypeId × Value→H} {w:World} {base:Nat} {spare:Nat→Bool} {held:Bool} {fuel:Nat} {v:Value} {x:DataW H × List MemPlace} (h:DataW.trod enc Tryz.prog w base spare held fuel 29 [v]=some x):
 ∃ (a:Option Addr) (n c:Nat),v=.slice a n c∧InL w a n∧n≤c∧c≤9223372036854775807:=by
 rcases open_ints Tryz.underlying29 Tryz.underlying3 cells3 h with ⟨hcs,_⟩ | ⟨a,n,c,zs,hcs,_,hl,hm,hz,_,hcell,hwz⟩
 ·simp only [List.cons.injEq,and_true] at hcs
  subst hcs;exact ⟨none,0,0,rfl,⟨by omega,fun j hj=>by omega⟩,Nat.le_refl _,by omega⟩
 ·simp only [List.cons.injEq,and_true] at hcs
  subst hcs;have hm:c≤9223372036854775807:=by unfold maxLen at hm;omega
  have hzn:n≤zs.length:=by split at hz <;> omega
  refine ⟨some a,n,c,rfl,⟨by omega,fun i hi=>?_⟩,hl,hm⟩;have hc:=hcell i (by omega);obtain ⟨b,o,spot⟩:=a;have hspot:spot=none:=by simpa [Addr.add] using World.cell?_spot (hcell 0 (by omega))
  subst hspot;rw [add_at] at hc;exact ⟨b,o,_,rfl,lg hc,hc⟩
end Go.Proofs.YtelefkkkccilaaaGreatDoor
namespace Go.Proofs.YtelefkkkccilaaaGreatDoor
open Go.Shelf Go.RowKit
def ren8:Go.Shelf.Ren:=⟨fun n=>n,fun | 119=>194 | 138=>196 | 139=>197 | n=>n,fun | 3=>0 | 4=>1 | n=>n⟩
theorem types8:Go.Proofs.U8Types Tryz.prog ren8:=⟨by kernel_rfl,by kernel_rfl,by kernel_rfl,by kernel_rfl⟩
theorem envOf {W:World} (h:laidMetH Tryz.prog [("unicode/utf8.acceptRanges",Rows.laid_unicode_utf8_acceptRanges),("unicode/utf8.first",Rows.laid_unicode_utf8_first)] W):Env W:=by
 rw [Go.MakeChecks.laidMetH_plain _ _ _ (by kernel_rfl)] at h;have h1:(Rows.laid_unicode_utf8_first:DataW Unit)=Go.Lib.firstData:=by kernel_rfl
 have h2:(Rows.laid_unicode_utf8_acceptRanges:DataW Unit)=Go.Lib.acceptData:=by kernel_rfl
 rw [h1,h2] at h;exact Go.Proofs.utf8Tabs_of_readsT types8 ⟨by kernel_rfl,by kernel_rfl,by kernel_rfl,by kernel_rfl,by kernel_rfl,by kernel_rfl,by kernel_rfl⟩ (Lib.laidMet.reads h (.tail _ (.head _))) (Lib.laidMet.reads h (.head _))
noncomputable def laidWorld (os:Os):World:=
 let w0:=World.holding Tryz.prog os ⟨#[],#[],[]⟩
 let put (h:Array Obj) (g:Nat) (cs:Array Value):Array Obj:=h.modify g fun
  | .cells _ t frozen=>.cells cs t frozen
  | o=>o
 let h1:=put w0.heap 0 (Lib.firstTab.map fun z=>Value.int .u8 z).toArray
 let h2:=put h1 1 ((List.range 16).flatMap fun i=>[Value.int .u8 (Lib.accLo i),Value.int .u8 (Lib.accHi i)]).toArray
 { w0 with heap:=h2 }
/-! ### What the bound of the second form gives. -/
