/- Regions on headers: facts that the operations hand on. -/
import Derived.Test.YtelefkkkccilaaaGreatDoorRz
import Derived.Test.YtelefkkkccilaaaGreatDoorSb
set_option linter.all false
namespace Go.Proofs.YtelefkkkccilaaaGreatDoor
open Go.RowKit
set_option maxRecDepth 100000
def RB' (w w':World):Prop:=Below w.heap.size w w'
theorem RB'.refl (w:World):RB' w w:=Below.refl _ _
theorem RB'.trans (u v w:World) (h:RB' u v) (k:RB' v w):RB' u w:=pt h k
theorem RB'.drew (w:World):RB' w w.drew:=(Below.refl _ _).drew
namespace It
def opt (r:Option It):It:=r.getD (mk 0 0 [] [])
def MR.item:MR→It | .err _=>mk 0 0 [] [] | .ok x=>x
def MR.code:MR→Nat | .err e=>e | .ok _=>0
def PH.fst:PH→It | .err _=>mk 0 0 [] [] | .ok p _=>p
def PH.snd:PH→It | .err _=>mk 0 0 [] [] | .ok _ u=>u
def PH.code:PH→Nat | .err e=>e | .ok _ _=>0
end It
inductive Fh where
 | eq (v:Value)
 | it (x:It)
 | op (r:Option It)
 | mr (r:It.MR)
 | hd (p u:It)
 | hr (r:It.PH)
 | bk (n:Nat) (o:Obj)
 | row (l:List It)
 | own (N:Nat) (l:List It)
 | rw (N:Nat) (l:List It)
 | bt (l:List UInt8)
 | rok (l:List It)
 | num (n:Int)
 | bl
 | hx (P:It.PH→Prop)
 | ix (P:It→Prop)
 | any
def Fh.holds (ok:Nat→Prop):Fh→Value→World→Prop
 | .eq v0,v,_=>v=v0
 | .it x,v,w=>∃ A:Ad,v=.agg #[.int .i64 x.kind,.int .u64 (x.num:Int),.slice A.ab A.nb A.cb,.slice A.ai A.ni A.ci]∧IR ok w x A
 | .op r,v,w=>∃ A:Ad,v=.tuple #[.agg #[.int .i64 (It.opt r).kind,.int .u64 ((It.opt r).num:Int),.slice A.ab A.nb A.cb,.slice A.ai A.ni A.ci],.bool r.isSome]∧IR ok w (It.opt r) A
 | .mr r,v,w=>∃ A:Ad,v=.tuple #[.agg #[.int .i64 r.item.kind,.int .u64 (r.item.num:Int),.slice A.ab A.nb A.cb,.slice A.ai A.ni A.ci],.int .i64 (r.code:Int)]∧IR ok w r.item A
 | .hd p u,v,w=>∃ A C:Ad,v=.agg #[.int .i64 p.kind,.int .u64 (p.num:Int),.slice A.ab A.nb A.cb,.slice A.ai A.ni A.ci,.int .i64 u.kind,.int .u64 (u.num:Int),.slice C.ab C.nb C.cb,.slice C.ai C.ni C.ci]∧IR ok w p A∧IR ok w u C
 | .hr r,v,w=>∃ A C:Ad,v=.tuple #[.agg #[.int .i64 r.fst.kind,.int .u64 (r.fst.num:Int),.slice A.ab A.nb A.cb,.slice A.ai A.ni A.ci,.int .i64 r.snd.kind,.int .u64 (r.snd.num:Int),.slice C.ab C.nb C.cb,.slice C.ai C.ni C.ci],.int .i64 (r.code:Int)]∧IR ok w r.fst A∧IR ok w r.snd C
 | .bk n o,v,w=>∃ b,v=.pointer (some ⟨b,0,none⟩)∧w.heap[b]?=some o∧n≤b
 | .row l,v,w=>∃ a n c,v=.slice a n c∧TL (fun _=>True) w l a n∧n≤c∧c≤9223372036854775807
 | .own N l,v,w=>∃ es:List (It × Ad),es.map (·.1)=l∧OutI w N (fun b=>b < N) v es
 | .rw N l,v,w=>∃ (es:List (It × Ad)) (a:Option Addr) (n c:Nat),v=.slice a n c∧es.map (·.1)=l∧SrcI w a n es∧∀ e ∈ es,IR (fun b=>b < N) w e.1 e.2
 | .bt l,v,w=>∃ a n c,v=.slice a n c∧BR (fun _=>True) w a n l
 | .rok l,v,w=>∃ a n c,v=.slice a n c∧TL ok w l a n∧n≤c∧c≤9223372036854775807
 | .num n,v,_=>∃ r:Int,v=.int .i64 r∧0≤r∧r < n
 | .bl,v,_=>∃ b:Bool,v=.bool b
 | .hx P,v,w=>∃ (r:It.PH) (A C:Ad),P r∧v=.tuple #[.agg #[.int .i64 r.fst.kind,.int .u64 (r.fst.num:Int),.slice A.ab A.nb A.cb,.slice A.ai A.ni A.ci,.int .i64 r.snd.kind,.int .u64 (r.snd.num:Int),.slice C.ab C.nb C.cb,.slice C.ai C.ni C.ci],.int .i64 (r.code:Int)]∧IR ok w r.fst A∧IR ok w r.snd C
 | .ix P,v,w=>∃ (x:It) (A:Ad),P x∧v=.agg #[.int .i64 x.kind,.int .u64 (x.num:Int),.slice A.ab A.nb A.cb,.slice A.ai A.ni A.ci]∧IR ok w x A
 | .any,_,_=>True
theorem Fh.keep {ok ok':Nat→Prop} {w w':World} (hb:RB' w w') (hk:∀ b,ok b→b < w.heap.size→ok' b) {f:Fh} {v:Value} (h:f.holds ok v w):f.holds ok' v w':=by
 have k:∀ {x:It} {A:Ad},IR ok w x A→IR ok' w' x A:=fun h=>h.keep fun b h1 h2=>⟨hb.block b h2,hk b h1 h2⟩
 cases f with
 | eq v0=>exact h
 | it x=>obtain ⟨A,e,hI⟩:=h;exact ⟨A,e,k hI⟩
 | op r=>obtain ⟨A,e,hI⟩:=h;exact ⟨A,e,k hI⟩
 | mr r=>obtain ⟨A,e,hI⟩:=h;exact ⟨A,e,k hI⟩
 | hd p u=>obtain ⟨A,C,e,hI,hJ⟩:=h;exact ⟨A,C,e,k hI,k hJ⟩
 | hr r=>obtain ⟨A,C,e,hI,hJ⟩:=h;exact ⟨A,C,e,k hI,k hJ⟩
 | bk n o=>obtain ⟨b,e,hb',hn⟩:=h;exact ⟨b,e,Below.keep hb hb' (lb hb'),hn⟩
 | row l=>obtain ⟨a,n,c,e,hT,h1⟩:=h;exact ⟨a,n,c,e,hT.keep fun b _ h2=>⟨hb.block b h2,trivial⟩,h1⟩
 | own N l=>obtain ⟨es,e,hO⟩:=h;exact ⟨es,e,hO.pure hb⟩
 | rw N l=>obtain ⟨es,a,n,c,e,e2,hS,hI⟩:=h;exact ⟨es,a,n,c,e,e2,hS.keep fun b o _ hl=>hb.block b hl,fun x hx=>(hI x hx).below hb⟩
 | bt l=>obtain ⟨a,n,c,e,hT⟩:=h;exact ⟨a,n,c,e,hT.keep fun b _ h2=>⟨hb.block b h2,trivial⟩⟩
 | rok l=>obtain ⟨a,n,c,e,hT,h1⟩:=h;exact ⟨a,n,c,e,hT.keep fun b h1 h2=>⟨hb.block b h2,hk b h1 h2⟩,h1⟩
 | num n=>exact h
 | bl=>exact h
 | hx P=>obtain ⟨r,A,C,hp,e,hI,hJ⟩:=h;exact ⟨r,A,C,hp,e,k hI,k hJ⟩
 | ix P=>obtain ⟨x,A,hp,e,hI⟩:=h;exact ⟨x,A,hp,e,k hI⟩
 | any=>trivial
theorem Fh.stable {ok:Nat→Prop} (f:Fh) (v:Value) (w w':World) (h:RB' w w') (hf:f.holds ok v w):f.holds ok v w':=Fh.keep h (fun _ h _=>h) hf
theorem Fh.imp {ok ok':Nat→Prop} {f:Fh} {v:Value} {w:World} (h:f.holds ok v w) (hk:∀ b,ok b→b < w.heap.size→ok' b):f.holds ok' v w:=Fh.keep (RB'.refl w) hk h
abbrev facth (ok:Nat→Prop) (l:List Fh) (j:Nat):Value→World→Prop:=Fh.holds ok (l.getD j .any)
def Dp (ok:Nat→Prop) (q:Fh) (u v:Value) (w:World):Prop:=∀ b,v=.pointer (some ⟨b,0,none⟩)→q.holds (fun k=>k≠b∧ok k) u w
theorem rgh {M id:Nat} {w:World} {Q:Exit→Act→World→Prop} {ops:Array Oper} {a0:Act} (ok:Nat→Prop) (l:List Fh) (m:List Rg.Kd) (x y:Nat) (q:Fh) (hok:Rg.okB ops M a0.tmps.size=true) (ht:Rg.tailL ops M (Rg.idx m)=true) (hp:Rg.pairB m M x y=true) (hQ:∀ c a o v w,Q (.panic c) (Act.put a o v) w→Q (.panic c) a w)
 (hs:Rg.StepsJ Tryz.prog a0 ops w RB' (fun _=>True) (facth ok l) x y (Dp ok q) 0 (ops.toList.take M) m)
 (hend:∀ vs w',RB' w w'→(∀ j,j < M→facth ok l j (vs j) w')→(x < M→y < M→Dp ok q (vs x) (vs y) w')→(∀ i o,i ∈ Rg.idx m→ops[i]?=some o→∀ W,(execOp (Rg.rho a0 ops i vs) o).run Tryz.prog W=.ok (.value (vs i)) W)→wpList Tryz.prog ops Q (ops.toList.drop M) (Rg.putAll ops M vs a0) w'):(Code.region id ops true).wp Tryz.prog Q a0 w:=
 Rg.regionJ m x y (Dp ok q) (by kernel_rfl) RB' (fun _=>True) (facth ok l) RB'.refl RB'.trans RB'.drew (fun _ _ _ _ h hf=>Fh.stable _ _ _ _ h hf) (fun _ _ _ _ h hf b e=>Fh.keep h (fun _ h _=>h) (hf b e)) hok ht hp hQ (fun _=>trivial) trivial hs (fun vs w' h1 _ h2 h3 h4=>hend vs w' h1 h2 h3 h4)
theorem region_f {M id:Nat} {b:Bool} {w:World} {Q:Exit→Act→World→Prop} {ops:Array Oper} {a0:Act} (ok:Nat→Prop) (l:List Fh) (hok:Rg.okB ops M a0.tmps.size=true) (ht:(if b then Rg.tailB ops M else decide (M≤ops.size))=true)
 (hs:Rg.Steps Tryz.prog a0 ops w RB' (fun _=>True) (facth ok l) 0 (ops.toList.take M)) (hend:∀ vs w',RB' w w'→(∀ j,j < M→facth ok l j (vs j) w')→wpList Tryz.prog ops Q (ops.toList.drop M) (Rg.putAll ops M vs a0) w'):(Code.region id ops b).wp Tryz.prog Q a0 w:=
 Rg.region_of RB' (fun _=>True) (facth ok l) (by kernel_rfl) RB'.refl RB'.trans RB'.drew (fun _ _ _ _ h hf=>Fh.stable _ _ _ _ h hf) hok ht (fun _=>trivial) trivial hs (fun vs w' h1 _ h2=>hend vs w' h1 h2)
theorem IR.int {ok ok':Nat→Prop} {w:World} {k:Int} {n:Nat} {A:Ad} (h:IR ok w (.mk k n [] []) A):IR ok' w (.mk k n [] []) A:=by
 rw [IR_iff] at h ⊢;obtain ⟨h1,⟨h2,h3⟩,h4,h5⟩:=h;exact ⟨h1,⟨⟨h2.1,h2.2.1,fun i hi=>absurd hi (by simp [It.bytes])⟩,h3⟩,⟨h4.1,h4.2.1,fun j hj=>absurd hj (by simp [It.kids])⟩,h5⟩
def EndH (w:World) (f:Fh) (e:Ending) (w':World):Prop:=∃ v,e=.returned v∧RB' w w'∧f.holds (fun q=>w.heap.size≤q) v w'
def EndO (ok:Nat→Prop) (w:World) (f:Fh) (e:Ending) (w':World):Prop:=∃ v,e=.returned v∧RB' w w'∧f.holds ok v w'
theorem EndH.any {ok:Nat→Prop} {w:World} {f:Fh} {e:Ending} {w':World} (h:EndH w f e w') (hw:∀ b,w.heap.size≤b→ok b):EndO ok w f e w':=by
 obtain ⟨v,e,h1,h2⟩:=h;exact ⟨v,e,h1,Fh.imp h2 fun b hb _=>hw b hb⟩
theorem EndH.ip {x:It} {w:World} {e:Ending} {w':World} (h:IP x w e w'):EndH w (.it x) e w':=by
 obtain ⟨A,rfl,hI,hB⟩:=h;exact ⟨_,rfl,hB,A,rfl,hI⟩
theorem EndH.bool {b:Bool} {w:World} {e:Ending} {w':World} (h:VP b w e w'):EndH w (.eq (.bool b)) e w':=⟨_,h.1,h.2,rfl⟩
theorem EndH.fp {r:Option It} {w:World} {e:Ending} {w':World} (h:FP r w e w'):EndH w (.op r) e w':=by
 cases r with
 | none=>exact ⟨_,h.1,h.2,⟨none,0,0,none,0,0⟩,rfl,IR.flat _ _ (by omega)⟩
 | some z=>obtain ⟨Z,e,hI,hB⟩:=h;exact ⟨_,e,hB,Z,rfl,hI⟩
theorem EndO.at {ok:Nat→Prop} {r:Option It} {w:World} {e:Ending} {w':World} (h:AtQ ok r w e w'):EndO ok w (.op r) e w':=by
 cases r with
 | none=>exact ⟨_,h.1,h.2,⟨none,0,0,none,0,0⟩,rfl,IR.flat _ _ (by omega)⟩
 | some z=>obtain ⟨Z,e,hI,hB⟩:=h;exact ⟨_,e,hB,Z,rfl,hI⟩
theorem EndH.mr {r:It.MR} {w:World} {e:Ending} {w':World} (h:BPost r w e w'):EndH w (.mr r) e w':=by
 cases r with
 | err n=>exact ⟨_,h.1,h.2,⟨none,0,0,none,0,0⟩,rfl,IR.flat _ _ (by omega)⟩
 | ok x=>obtain ⟨A,e,hI,hB⟩:=h;exact ⟨_,e,hB,A,rfl,hI⟩
theorem EndO.imp {ok ok':Nat→Prop} {w:World} {f:Fh} {e:Ending} {w':World} (h:EndO ok w f e w') (hk:∀ b,ok b→ok' b):EndO ok' w f e w':=by
 obtain ⟨v,e,h1,h2⟩:=h;exact ⟨v,e,h1,Fh.imp h2 fun b hb _=>hk b hb⟩
theorem h_cint (n:Int) (h: -9223372036854775808≤n∧n≤9223372036854775807) (W:World) (ok:Nat→Prop):Calls Tryz.prog 69 #[.int .i64 n] W (EndO ok W (.it (It.int n))):=
 (cint_any n h.1 h.2 W).mono fun e w' ⟨A,he,hI,hB⟩=>⟨_,he,hB,A,rfl,by
  rw [int_it] at hI;rw [It.int_form] at hI ⊢;exact hI.int⟩
theorem h_rint (n:Int) (h: -9223372036854775808≤n∧n≤9223372036854775807) (W:World) (ok:Nat→Prop):Calls Tryz.prog 62 #[.int .i64 n] W (EndO ok W (.it (It.int n))):=
 (rint_any n h.1 h.2 W).mono fun e w' ⟨A,he,hI,hB⟩=>⟨_,he,hB,A,rfl,by
  rw [int_it] at hI;rw [It.int_form] at hI ⊢;exact hI.int⟩
theorem h_cfind {ok:Nat→Prop} {v1 v2:Value} {W:World} {m q:It} (h1:(Fh.it m).holds ok v1 W) (h2:(Fh.it q).holds ok v2 W) (hE:Env W):Calls Tryz.prog 63 #[v1,v2] W (EndH W (.op (It.findP m q))):=by
 obtain ⟨A,rfl,hI⟩:=h1;obtain ⟨K,rfl,hK⟩:=h2;exact (cfind_any m q A K W _ _ hI hK hE).mono fun _ _ h=>EndH.fp h
theorem h_at {ok:Nat→Prop} {v1 v2:Value} {W:World} {m q:It} (h1:(Fh.it m).holds ok v1 W) (h2:(Fh.it q).holds ok v2 W) (hl:m.kids.length≤1000):Calls Tryz.prog 87 #[v1,v2] W (EndO ok W (.op (It.look m.kids q))):=by
 obtain ⟨A,rfl,hI⟩:=h1;obtain ⟨K,rfl,hK⟩:=h2;exact (at_any m q A K W _ _ hI hK hl).mono fun _ _ h=>EndO.at h
theorem cfh (f:FuncId) (fn:Func) (hf:Tryz.prog.funcs[f]?=some fn) (hn:(fn.name== "runtime.NumGoroutine")=false) (hb:fn.body.isNone=false) (vals:Array Value) (w:World):(callFunc f vals).run Tryz.prog w=.ok (.enter f vals) w:=by
 unfold callFunc;simp only [Sem.run_bind,run_program,Result.andThen_ok,hf];simp [hn,hb]
theorem cq {f:FuncId} {fn:Func} (hf:Tryz.prog.funcs[f]?=some fn) {vals:Array Value} (hn:(fn.name== "runtime.NumGoroutine")=false:=by kernel_rfl) (hb:fn.body.isNone=false:=by kernel_rfl):∀ w,(callFunc f vals).run Tryz.prog w=.ok (.enter f vals) w:=cfh f fn hf hn hb vals
section ops
variable {o:Oper} {ρ:Operand→Value} {w:World}
theorem doesh_val {ok:Nat→Prop} {q:Fh} {v:Value} (h:(execOp ρ o).run Tryz.prog w=.ok (.value v) w) (hq:q.holds ok v w):Rg.Does Tryz.prog o ρ w fun v' w'=>RB' w w'∧True∧q.holds ok v' w':=Rg.Does.value h ⟨RB'.refl _,trivial,hq⟩
theorem dmv {ok:Nat→Prop} {q:Fh} (x:Operand) (ho:o.op=.move x) (hq:q.holds ok (ρ x) w):Rg.Does Tryz.prog o ρ w fun v' w'=>RB' w w'∧True∧q.holds ok v' w':=Rg.Does.move x ho ⟨RB'.refl _,trivial,hq⟩
theorem doesh_assign {ok:Nat→Prop} {q:Fh} (x:Operand) (ho:o.op=.assign x) (hq:q.holds ok (ρ x) w):Rg.Does Tryz.prog o ρ w fun v' w'=>RB' w w'∧True∧q.holds ok v' w':=Rg.Does.assign x ho ⟨RB'.refl _,trivial,hq⟩
theorem dfd (T:TypeId) (x:Operand) (b i n:Nat) (ho:o.op=.fieldAddr T x i) (hx:ρ x=.pointer (some ⟨b,0,none⟩)) (hT:∀ W:World,(Instr.fieldAt T (.pointer (some ⟨b,0,none⟩)) i).run Tryz.prog W=.ok (.pointer (some ⟨b,n,none⟩)) W) {ok:Nat→Prop}:Rg.Does Tryz.prog o ρ w fun v' w'=>RB' w w'∧True∧(Fh.eq (.pointer (some ⟨b,n,none⟩))).holds ok v' w':=by
 refine doesh_val ?_ rfl;simp only [execOp,ho,hx,Sem.run_bind,hT,Result.andThen_ok,Sem.run_pure]
theorem fieldH0 (b:Nat) (W:World):(Instr.fieldAt 28 (.pointer (some ⟨b,0,none⟩)) 0).run Tryz.prog W=.ok (.pointer (some ⟨b,0,none⟩)) W:=by go_simp
theorem fieldH1 (b:Nat) (W:World):(Instr.fieldAt 28 (.pointer (some ⟨b,0,none⟩)) 1).run Tryz.prog W=.ok (.pointer (some ⟨b,4,none⟩)) W:=by go_simp
theorem dld {ok:Nat→Prop} (x:Operand) (b q:Nat) (k:It) (A:Ad) (ho:o.op=.load 26 x) (hx:ρ x=.pointer (some ⟨b,q,none⟩)) (c0:w.cell? ⟨b,q,none⟩=some (.int .i64 k.kind)) (c1:w.cell? ⟨b,q + 1,none⟩=some (.int .u64 (k.num:Int))) (c2:w.cell? ⟨b,q + 2,none⟩=some (.slice A.ab A.nb A.cb)) (c3:w.cell? ⟨b,q + 3,none⟩=some (.slice A.ai A.ni A.ci)) (hI:IR ok w k A):Rg.Does Tryz.prog o ρ w fun v' w'=>RB' w w'∧True∧(Fh.it k).holds ok v' w':=by
 refine doesh_val (v:=.agg #[.int .i64 k.kind,.int .u64 (k.num:Int),.slice A.ab A.nb A.cb,.slice A.ai A.ni A.ci]) ?_ ⟨A,rfl,hI⟩;have hr:(Instr.loadAt 26 (.pointer (some ⟨b,q,none⟩))).run Tryz.prog w=.ok (.agg #[.int .i64 k.kind,.int .u64 (k.num:Int),.slice A.ab A.nb A.cb,.slice A.ai A.ni A.ci]) w:=by
  go_simp
 simp only [execOp,ho,hx,Sem.run_bind,hr,Result.andThen_ok,Sem.run_pure]
theorem dlP {ok:Nat→Prop} {W:World} (x:Operand) (b:Nat) (p u:It) (A C:Ad) (hW:Below w.heap.size w W) (hb:w.heap[b]?=some (.cells #[.int .i64 p.kind,.int .u64 (p.num:Int),.slice A.ab A.nb A.cb,.slice A.ai A.ni A.ci,.int .i64 u.kind,.int .u64 (u.num:Int),.slice C.ab C.nb C.cb,.slice C.ai C.ni C.ci] 28 (0,0))) (hI:IR ok w p A) (ho:o.op=.load 26 x) (hx:ρ x=.pointer (some ⟨b,0,none⟩)):Rg.Does Tryz.prog o ρ W fun v' w'=>RB' W w'∧True∧(Fh.it p).holds ok v' w':=by
 obtain ⟨a0,a1,a2,a3,a4,a5,a6,a7⟩:=ce (Below.keep hW hb (lb hb));exact dld x b 0 p A ho hx a0 a1 a2 a3 (hI.below hW)
theorem dlU {ok:Nat→Prop} {W:World} (x:Operand) (b:Nat) (p u:It) (A C:Ad) (hW:Below w.heap.size w W) (hb:w.heap[b]?=some (.cells #[.int .i64 p.kind,.int .u64 (p.num:Int),.slice A.ab A.nb A.cb,.slice A.ai A.ni A.ci,.int .i64 u.kind,.int .u64 (u.num:Int),.slice C.ab C.nb C.cb,.slice C.ai C.ni C.ci] 28 (0,0))) (hJ:IR ok w u C) (ho:o.op=.load 26 x) (hx:ρ x=.pointer (some ⟨b,4,none⟩)):Rg.Does Tryz.prog o ρ W fun v' w'=>RB' W w'∧True∧(Fh.it u).holds ok v' w':=by
 obtain ⟨a0,a1,a2,a3,a4,a5,a6,a7⟩:=ce (Below.keep hW hb (lb hb));exact dld x b 4 u C ho hx a4 a5 a6 a7 (hJ.below hW)
theorem dcl {ok:Nat→Prop} {q:Fh} (f:FuncId) (fo:Operand) (args:Array Operand) (ts:Array TypeId) (ho:o.op=.call { callee:=.value fo,args:=args,argTypes:=ts }) (hf:ρ fo=.func (.func f) #[] #[]) {vals:Array Value} (hv:args.map ρ=vals)
 (hcf:∀ w,(callFunc f vals).run Tryz.prog w=.ok (.enter f vals) w) (h:Calls Tryz.prog f vals w (EndO ok w q)):Rg.Does Tryz.prog o ρ w fun v w'=>RB' w w'∧True∧q.holds ok v w':=
 Rg.Does.call f fo args ts ho hf hv hcf (h.mono fun _ _ ⟨v,e,h1,h2⟩=>⟨v,e,h1,trivial,h2⟩)
theorem dfi {ok:Nat→Prop} {q:Fh} {l:List Fh} {x y n:Nat} {ob:Obj} (f:FuncId) (fo:Operand) (args:Array Operand) (ts:Array TypeId) (ho:o.op=.call { callee:=.value fo,args:=args,argTypes:=ts }) (hf:ρ fo=.func (.func f) #[] #[]) {vals:Array Value} (hv:args.map ρ=vals)
 (hcf:∀ w,(callFunc f vals).run Tryz.prog w=.ok (.enter f vals) w) (hx:l.getD x .any=q) (hy:l.getD y .any=.bk n ob) (hxy:x≠y) (hw:∀ b,w.heap.size≤b→ok b) (h:Calls Tryz.prog f vals w (EndH w q)):Rg.Does Tryz.prog o ρ w fun v w'=>(RB' w w'∧True∧facth ok l x v w')∧Rg.PairX (facth ok l) x y (Dp ok q) x v w w':=
 Rg.Does.call f fo args ts ho hf hv hcf (h.mono fun _ w' ⟨v,e,h1,h2⟩=>⟨v,e,⟨h1,trivial,by show Fh.holds ok (l.getD x .any) v w';rw [hx];exact Fh.imp h2 fun b hb _=>hw b hb⟩,fun _ u hu b hb=>by
  have hu:Fh.holds ok (l.getD y .any) u w:=hu;rw [hy] at hu;obtain ⟨b',e',h3,_⟩:=hu;have:b'=b:=by rw [e'] at hb;simpa using hb
  subst this;have:=lb h3;exact Fh.imp h2 fun k hk _=>⟨by omega,hw k hk⟩,fun e=>absurd e hxy⟩)
theorem doesh_firstO {ok:Nat→Prop} {q:Fh} {l:List Fh} {x y n:Nat} {ob:Obj} (f:FuncId) (fo:Operand) (args:Array Operand) (ts:Array TypeId) (ho:o.op=.call { callee:=.value fo,args:=args,argTypes:=ts }) (hf:ρ fo=.func (.func f) #[] #[]) {vals:Array Value} (hv:args.map ρ=vals)
 (hcf:∀ w,(callFunc f vals).run Tryz.prog w=.ok (.enter f vals) w) (hx:l.getD x .any=q) (hy:l.getD y .any=.bk n ob) (hxy:x≠y) (hn:∀ b,ok b→b < n) (h:Calls Tryz.prog f vals w (EndO ok w q)):Rg.Does Tryz.prog o ρ w fun v w'=>(RB' w w'∧True∧facth ok l x v w')∧Rg.PairX (facth ok l) x y (Dp ok q) x v w w':=
 Rg.Does.call f fo args ts ho hf hv hcf (h.mono fun _ w' ⟨v,e,h1,h2⟩=>⟨v,e,⟨h1,trivial,by show Fh.holds ok (l.getD x .any) v w';rw [hx];exact h2⟩,fun _ u hu b hb=>by
  have hu:Fh.holds ok (l.getD y .any) u w:=hu;rw [hy] at hu;obtain ⟨b',e',h3,h4⟩:=hu;have:b'=b:=by rw [e'] at hb;simpa using hb
  subst this;exact Fh.imp h2 fun k hk _=>⟨by have:=hn k hk;omega,hk⟩,fun e=>absurd e hxy⟩)
theorem dal {ok:Nat→Prop} {q:Fh} {l:List Fh} {x y n:Nat} (ho:o.op=.alloc 26) (hx:l.getD x .any=q) (hy:l.getD y .any=.bk n (.cells #[.int .i64 0,.int .u64 0,.slice none 0 0,.slice none 0 0] 26 (0,0))) (hxy:x≠y) (hn:n≤w.heap.size):Rg.Does Tryz.prog o ρ w fun v w'=>(RB' w w'∧True∧facth ok l y v w')∧Rg.PairX (facth ok l) x y (Dp ok q) y v w w':=by
 have hP:=al w o4z;refine Rg.Does.value (v:=.pointer (some ⟨w.heap.size,0,none⟩)) (w':=w.alloc o4z) ?_ ⟨⟨hP,trivial,?_⟩,fun e=>absurd e.symm hxy,fun _ u hu b hb=>?_⟩
 ·simp only [execOp,ho]
  go_simp
 ·show Fh.holds ok (l.getD y .any) _ _
  rw [hy];exact ⟨w.heap.size,rfl,aw _ _,hn⟩
 ·have hu:Fh.holds ok (l.getD x .any) u w:=hu
  rw [hx] at hu;have:b=w.heap.size:=by simpa using hb.symm
  subst this;exact Fh.keep hP (fun k hk hl=>⟨by omega,hk⟩) hu
end ops
theorem late_op0 {P:Program} {o:Oper} {ρ:Operand→Value} {w:World} {ok:Nat→Prop} {r:Option It} (x:Operand) (ho:o.op=.extract x 0) (h:(Fh.op r).holds ok (ρ x) w):∃ v,(∀ W,(execOp ρ o).run P W=.ok (.value v) W)∧(Fh.it (It.opt r)).holds ok v w:=by
 obtain ⟨A,e,hI⟩:=h;exact ⟨_,fun W=>by simp only [execOp,ho,e];go_simp,A,rfl,hI⟩
theorem late_op1 {P:Program} {o:Oper} {ρ:Operand→Value} {w:World} {ok:Nat→Prop} {r:Option It} (x:Operand) (ho:o.op=.extract x 1) (h:(Fh.op r).holds ok (ρ x) w):∃ v,(∀ W,(execOp ρ o).run P W=.ok (.value v) W)∧(Fh.eq (.bool r.isSome)).holds ok v w:=by
 obtain ⟨A,e,hI⟩:=h;exact ⟨_,fun W=>by simp only [execOp,ho,e];go_simp,rfl⟩
theorem late_move {o:Oper} {ρ:Operand→Value} {w:World} {ok:Nat→Prop} {q:Fh} (x:Operand) (ho:o.op=.move x) (h:q.holds ok (ρ x) w):∃ v,(∀ W,(execOp ρ o).run Tryz.prog W=.ok (.value v) W)∧q.holds ok v w:=
 ⟨ρ x,fun W=>by simp [execOp,ho],h⟩
theorem exm {o:Oper} {ρ:Operand→Value} {W:World} {v:Value} (h:(execOp ρ o).run Tryz.prog W=.ok (.value v) W) (x:Operand) (ho:o.op=.move x):v=ρ x:=by
 simp [execOp,ho] at h;exact h.symm
theorem ex0 {o:Oper} {ρ:Operand→Value} {W:World} {v a b:Value} (h:(execOp ρ o).run Tryz.prog W=.ok (.value v) W) (x:Operand) (ho:o.op=.extract x 0) (hx:ρ x=.tuple #[a,b]):v=a:=by
 have hr:(Instr.extract (.tuple #[a,b]) 0).run Tryz.prog W=.ok a W:=by go_simp
 simp only [execOp,ho,hx,Sem.run_bind,hr,Result.andThen_ok,Sem.run_pure,Result.ok.injEq,Next.value.injEq,and_true] at h;exact h.symm
theorem ex1 {o:Oper} {ρ:Operand→Value} {W:World} {v a b:Value} (h:(execOp ρ o).run Tryz.prog W=.ok (.value v) W) (x:Operand) (ho:o.op=.extract x 1) (hx:ρ x=.tuple #[a,b]):v=b:=by
 have hr:(Instr.extract (.tuple #[a,b]) 1).run Tryz.prog W=.ok b W:=by go_simp
 simp only [execOp,ho,hx,Sem.run_bind,hr,Result.andThen_ok,Sem.run_pure,Result.ok.injEq,Next.value.injEq,and_true] at h;exact h.symm
