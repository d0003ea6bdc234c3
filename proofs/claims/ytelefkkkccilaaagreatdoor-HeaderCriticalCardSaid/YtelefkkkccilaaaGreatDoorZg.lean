/- Regions of pure operations on items: facts that the operations hand on. -/
import Derived.Test.YtelefkkkccilaaaGreatDoorRg
import Derived.Test.YtelefkkkccilaaaGreatDoorLJ
set_option linter.all false
namespace Go.Proofs.YtelefkkkccilaaaGreatDoor
open Go.RowKit
set_option maxRecDepth 100000
def RB (w w':World):Prop:=Below w.heap.size w w'
theorem RB.refl (w:World):RB w w:=Below.refl _ _
theorem RB.trans (u v w:World) (h:RB u v) (k:RB v w):RB u w:=pt h k
theorem RB.drew (w:World):RB w w.drew:=(Below.refl _ _).drew
inductive Fq where
 | eq (v:Value)
 | it (x:It)
 | rw (l:List It)
 | any
def Fq.holds:Fq→Value→World→Prop
 | .eq v0,v,_=>v=v0
 | .it x,v,w=>∃ A:Ad,v=.agg #[.int .i64 x.kind,.int .u64 (x.num:Int),.slice A.ab A.nb A.cb,.slice A.ai A.ni A.ci]∧IR (fun _=>True) w x A
 | .rw l,v,w=>∃ (a:Option Addr) (c:Nat),v=.slice a l.length c∧TL (fun _=>True) w l a l.length∧l.length≤c∧c≤9223372036854775807
 | .any,_,_=>True
theorem Fq.stable (f:Fq) (v:Value) (w w':World) (h:RB w w') (hf:f.holds v w):f.holds v w':=by
 cases f with
 | eq v0=>exact hf
 | it x=>
   obtain ⟨A,e,hI⟩:=hf;exact ⟨A,e,hI.below h⟩
 | rw l=>
   obtain ⟨a,c,e,hT,hc⟩:=hf;exact ⟨a,c,e,hT.below h,hc⟩
 | any=>trivial
def EndQ (w:World) (f:Fq) (e:Ending) (w':World):Prop:=∃ v,e=.returned v∧RB w w'∧True∧f.holds v w'
theorem EndQ.ip {x:It} {w:World} {e:Ending} {w':World} (h:IP x w e w'):EndQ w (.it x) e w':=by
 obtain ⟨A,rfl,hI,hB⟩:=h;exact ⟨_,rfl,hB,trivial,A,rfl,hI.imp fun _ _ _=>trivial⟩
theorem EndQ.bool {b:Bool} {w:World} {e:Ending} {w':World} (h:e=.returned (.bool b)∧Below w.heap.size w w'):EndQ w (.eq (.bool b)) e w':=⟨_,h.1,h.2,trivial,rfl⟩
theorem run_row1 (k0 N0:Int) (ab0 ai0:Option Addr) (nb0 cb0 ni0 ci0:Nat) (w:World):(Instr.buildSlice 24 1 #[(0,.agg #[.int .i64 k0,.int .u64 N0,.slice ab0 nb0 cb0,.slice ai0 ni0 ci0])]).run Tryz.prog w=.ok (.slice (some ⟨w.heap.size,0,none⟩) 1 1) (w.alloc (.cells #[.int .i64 k0,.int .u64 N0,.slice ab0 nb0 cb0,.slice ai0 ni0 ci0] 26)):=by
 go_simp
theorem run_row2 (k0 N0:Int) (ab0 ai0:Option Addr) (nb0 cb0 ni0 ci0:Nat) (k1 N1:Int) (ab1 ai1:Option Addr) (nb1 cb1 ni1 ci1:Nat) (w:World):(Instr.buildSlice 24 2 #[(0,.agg #[.int .i64 k0,.int .u64 N0,.slice ab0 nb0 cb0,.slice ai0 ni0 ci0]),(1,.agg #[.int .i64 k1,.int .u64 N1,.slice ab1 nb1 cb1,.slice ai1 ni1 ci1])]).run Tryz.prog w=.ok (.slice (some ⟨w.heap.size,0,none⟩) 2 2) (w.alloc (.cells #[.int .i64 k0,.int .u64 N0,.slice ab0 nb0 cb0,.slice ai0 ni0 ci0,.int .i64 k1,.int .u64 N1,.slice ab1 nb1 cb1,.slice ai1 ni1 ci1] 26)):=by
 go_simp
