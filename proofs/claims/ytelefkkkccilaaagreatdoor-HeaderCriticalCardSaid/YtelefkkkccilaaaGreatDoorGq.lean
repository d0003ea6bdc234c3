/- Operations of a region of pure operations: what each yields. -/
import Derived.Test.YtelefkkkccilaaaGreatDoorZg
set_option linter.all false
namespace Go.Proofs.YtelefkkkccilaaaGreatDoor
open Go.RowKit
set_option maxRecDepth 100000
section ops
variable {o:Oper} {ρ:Operand→Value} {w:World}
theorem does_val {v:Value} (h:(execOp ρ o).run Tryz.prog w=.ok (.value v) w):Rg.Does Tryz.prog o ρ w fun v' w'=>RB w w'∧True∧(Fq.eq v).holds v' w':=Rg.Does.value h ⟨RB.refl _,trivial,rfl⟩
theorem does_not (x:Operand) (b:Bool) (ho:o.op=.unOp .not 4 x) (hx:ρ x=.bool b):Rg.Does Tryz.prog o ρ w fun v' w'=>RB w w'∧True∧(Fq.eq (.bool (!b))).holds v' w':=by
 refine does_val ?_;simp only [execOp,ho,hx];go_simp
theorem does_len (x:Operand) (T e:TypeId) (hT:Tryz.prog.underlying T=some (.slice e)) (a:Option Addr) (n c:Nat) (ho:o.op=.call { callee:=.builtin .len,args:=#[x],argTypes:=#[T] }) (hx:ρ x=.slice a n c):Rg.Does Tryz.prog o ρ w fun v' w'=>RB w w'∧True∧(Fq.eq (.int .i64 (n:Int))).holds v' w':=by
 refine does_val ?_;simp only [execOp,ho,resolve,List.map_toArray,List.map_cons,List.map_nil,hx];go_simp
theorem df3 (x:Operand) (b:Nat) (ho:o.op=.fieldAddr 26 x 3) (hx:ρ x=.pointer (some ⟨b,0,none⟩)):Rg.Does Tryz.prog o ρ w fun v' w'=>RB w w'∧True∧(Fq.eq (.pointer (some ⟨b,3,none⟩))).holds v' w':=by
 refine does_val ?_;simp only [execOp,ho,hx];go_simp
theorem dl24 (x:Operand) (b q:Nat) (a:Option Addr) (n c:Nat) (ho:o.op=.load 24 x) (hx:ρ x=.pointer (some ⟨b,q,none⟩)) (hc:w.cell? ⟨b,q,none⟩=some (.slice a n c)):Rg.Does Tryz.prog o ρ w fun v' w'=>RB w w'∧True∧(Fq.eq (.slice a n c)).holds v' w':=by
 refine does_val ?_;simp only [execOp,ho,hx];go_simp
theorem di24 (x y:Operand) (b q n c j:Nat) (hj:j < n) (ho:o.op=.indexAddr 24 x y) (hx:ρ x=.slice (some ⟨b,q,none⟩) n c) (hy:ρ y=.int .i64 j):Rg.Does Tryz.prog o ρ w fun v' w'=>RB w w'∧True∧(Fq.eq (.pointer (some ⟨b,q + j * 4,none⟩))).holds v' w':=by
 refine does_val ?_;have hlt:(j:Int) < n:=by omega
 simp only [execOp,ho,hx,hy];go_simp
theorem does_add3 (x y:Operand) (a b c:Int) (ho:o.op=.binOp .add 3 x y 3) (hx:ρ x=.int .i64 a) (hy:ρ y=.int .i64 b) (h:a + b=c) (h1: -9223372036854775808≤c) (h2:c≤9223372036854775807):Rg.Does Tryz.prog o ρ w fun v' w'=>RB w w'∧True∧(Fq.eq (.int .i64 c)).holds v' w':=by
 refine does_val ?_;have hw:IntKind.i64.wrap (a + b)=c:=by rw [h];exact IntWalk.i64_in _ ⟨h1,h2⟩
 clear h;simp only [execOp,ho,hx,hy];go_simp
theorem does_neq3 (x y:Operand) (a b:Int) (r:Bool) (ho:o.op=.binOp .neq 3 x y 3) (hx:ρ x=.int .i64 a) (hy:ρ y=.int .i64 b) (h:(a !=b)=r):Rg.Does Tryz.prog o ρ w fun v' w'=>RB w w'∧True∧(Fq.eq (.bool r)).holds v' w':=by
 refine does_val ?_;simp only [execOp,ho,hx,hy];go_simp
theorem does_eql3 (x y:Operand) (a b:Int) (r:Bool) (ho:o.op=.binOp .eql 3 x y 3) (hx:ρ x=.int .i64 a) (hy:ρ y=.int .i64 b) (h:(a==b)=r):Rg.Does Tryz.prog o ρ w fun v' w'=>RB w w'∧True∧(Fq.eq (.bool r)).holds v' w':=by
 refine does_val ?_;simp only [execOp,ho,hx,hy];go_simp
theorem does_gtr3 (x y:Operand) (a b:Int) (r:Bool) (ho:o.op=.binOp .gtr 3 x y 3) (hx:ρ x=.int .i64 a) (hy:ρ y=.int .i64 b) (h:decide (b < a)=r):Rg.Does Tryz.prog o ρ w fun v' w'=>RB w w'∧True∧(Fq.eq (.bool r)).holds v' w':=by
 refine does_val ?_;simp only [execOp,ho,hx,hy];go_simp
end ops
