/- Worlds, rows of one's own, and how bytes and items lie in memory; decks. Bytes in rows of one's own, and append onto them. The bytes of a number: heads. Heads: the walks of head, of the program and of the reference. Heads: the walk of the reference's Head. Bits of floats: IsNaN and Narrow. The reference's Narrow. The reference's float. The program's half. -/
import Derived.Test.YtelefkkkccilaaaDoorRows
import Derived.Test.YtelefkkkccilaaaDoorLA
import Derived.WalkKit
import Derived.WalkSpells
import Derived.WalkLawsBesides
import Derived.Deep.QuietTactic
import Derived.BigQuiet
import Derived.Lib.Hide
import Derived.Deep.RegionHeld3
import Derived.Deep.DeepMust
import Derived.Deep.DeepCutAuto
import Derived.Maps.AppendAt
import Derived.Laws.BitsAllLaws
set_option linter.unusedVariables false
set_option linter.unusedSimpArgs false
namespace Go.Proofs.YtelefkkkccilaaaDoor
open Go.RowKit
theorem dh {p:Prop} (h:p):Hid p:=h
theorem tk {P:Program} {md:Region.Mode} {ops:Array Oper} {Q:Exit→Act→World→Prop} {S:World→Prop} (i:Nat) {oi:Oper} {v:Value} {fuel:Nat} {listed:Array Bool} {a:Act} {w:World} (hi:ops[i]?=some oi) (hS:S w) (hy:∀ W,S W→(execOp a.eval oi).run P W=.ok (.value v) W)
 (h:wpAnyH P md ops Q S fuel (listed.setIfInBounds i true) (a.put oi.dst v) w) (hs:Region.noSelect ops=true:=by kernel_rfl) (hf:Region.free md ops listed i=true:=by kernel_rfl) (hr:(Region.ready md ops listed).contains i=true:=by kernel_rfl) (hQ:∀ c a w,Q (.panic c) (a.put oi.dst v) w→Q (.panic c) a w:=by exact fun _ _ _ h=>h)
 (hw:Region.wanted oi (yielded ops a.tmps)=true:=by rfl):wpAnyH P md ops Q S (fuel + 1) listed a w:=wpAnyH_take hi hs hf hr hQ (.inl ⟨hw,hy⟩) hS h
theorem ry {P:Program} {md:Region.Mode} {ops:Array Oper} {Q:Exit→Act→World→Prop} {S:World→Prop} {fuel:Nat} {listed:Array Bool} {a:Act} {w:World} (i:Nat) {o:Oper} (hr:Region.ready md ops listed=[i]) (ho:ops[i]?=some o) (h:∀ K':Act→World→Prop,Shut (∀ a w,S w→(S w→wpAnyH P md ops Q S fuel (listed.setIfInBounds i true) a w)→K' a w)→if Region.wanted o (yielded ops a.tmps)=true then Oper.wp P o a w K' Q else K' (a.put o.dst undef) w):wpAnyH P md ops Q S (fuel + 1) listed a w:=wpAnyH_ready hr (by simp) (AllReadyH.cons ho h AllReadyH.nil)
theorem sx {α:Type}:(∀ (l:List α) (i:Nat) (a:α),l.toArray.setIfInBounds i a=(l.set i a).toArray)∧(∀ (x:α) (xs:List α) (a:α),(x :: xs).set 0 a=a :: xs)∧(∀ (x:α) (xs:List α) (n:Nat) (a:α),(x :: xs).set (n + 1) a=x :: xs.set n a)∧(∀ (xs:List α) (i:Nat) (h:i < xs.toArray.size),xs.toArray[i]=xs[i]'(by simpa using h))∧(∀ (x:α) (xs:List α) (i:Nat) (h:i + 1 < (x :: xs).length),(x :: xs)[i + 1]=xs[i]'(by simpa using h))∧(∀ (x:α) (xs:List α) (h:0 < (x :: xs).length),(x :: xs)[0]=x):=
 ⟨fun _ _ _=>List.setIfInBounds_toArray ..,fun _ _ _=>List.set_cons_zero ..,fun _ _ _ _=>List.set_cons_succ ..,fun _ _ _=>List.getElem_toArray ..,fun _ _ _ _=>List.getElem_cons_succ ..,fun _ _ _=>List.getElem_cons_zero ..⟩
theorem sz:(∀ (a:Act) (d:Tmp) (v:Value),a.put (some d) v={ a with tmps:=a.tmps.setIfInBounds d v })∧(∀ (a:Act) (v:Value),a.put none v=a)∧((∀ (l:List Value) (i:Nat) (a:Value),l.toArray.setIfInBounds i a=(l.set i a).toArray)∧(∀ (x:Value) (xs:List Value) (a:Value),(x :: xs).set 0 a=a :: xs)∧(∀ (x:Value) (xs:List Value) (n:Nat) (a:Value),(x :: xs).set (n + 1) a=x :: xs.set n a)∧(∀ (xs:List Value) (i:Nat) (h:i < xs.toArray.size),xs.toArray[i]=xs[i]'(by simpa using h))∧(∀ (x:Value) (xs:List Value) (i:Nat) (h:i + 1 < (x :: xs).length),(x :: xs)[i + 1]=xs[i]'(by simpa using h))∧(∀ (x:Value) (xs:List Value) (h:0 < (x :: xs).length),(x :: xs)[0]=x))∧(∀ (l:List Bool) (i:Nat) (a:Bool),l.toArray.setIfInBounds i a=(l.set i a).toArray)∧(∀ (x:Bool) (xs:List Bool) (a:Bool),(x :: xs).set 0 a=a :: xs)∧(∀ (x:Bool) (xs:List Bool) (n:Nat) (a:Bool),(x :: xs).set (n + 1) a=x :: xs.set n a)∧(∀ (xs:List Bool) (i:Nat) (h:i < xs.toArray.size),xs.toArray[i]=xs[i]'(by simpa using h))∧(∀ (x:Bool) (xs:List Bool) (i:Nat) (h:i + 1 < (x :: xs).length),(x :: xs)[i + 1]=xs[i]'(by simpa using h))∧(∀ (x:Bool) (xs:List Bool) (h:0 < (x :: xs).length),(x :: xs)[0]=x):=⟨fun _ _ _=>rfl,fun _ _=>rfl,sx,sx⟩
theorem ret_int {k:IntKind} {a b:Int} (h:a=b):Ending.returned (.int k a)=.returned (.int k b):=by rw [h]
theorem bd {B:Nat} {a w:World} (h:Below B a w) (n:Nat):Below B a (w.drewN n):=⟨h.os,h.tape,h.output,h.size,h.block⟩
theorem lb {w:World} {b:Nat} {o:Obj} (h:w.heap[b]?=some o):b < w.heap.size:=by
 rcases Nat.lt_or_ge b w.heap.size with h1 | h1
 ·exact h1
 ·simp [Array.getElem?_eq_none h1] at h
theorem lg {w:World} {b o:Nat} {v:Value} (h:w.cell? ⟨b,o,none⟩=some v):b < w.heap.size:=by
 unfold World.cell? at h
 split at h
 ·rename_i hb;exact lb hb
 ·cases h
theorem Below.keep {B k:Nat} {w w':World} {o:Obj} (h:Below B w w') (hk:w.heap[k]?=some o) (hb:k < B):w'.heap[k]?=some o:=(h.block k hb).trans hk
theorem aw (w:World) (o:Obj):(w.alloc o).heap[w.heap.size]?=some o:=by
 show (w.heap.push o)[w.heap.size]?=_
 simp
theorem alloc_new' (w:World) (o:Obj) (b:Nat) (h:b=w.heap.size):(w.alloc o).heap[b]?=some o:=by subst h;exact aw w o
theorem alloc_keep {w:World} {k:Nat} {o o':Obj} (h:w.heap[k]?=some o):(w.alloc o').heap[k]?=some o:=(Below.heap_alloc _ _ _ (lb h)).trans h
theorem pt {a b c:World} (h:Below a.heap.size a b) (k:Below b.heap.size b c):Below a.heap.size a c:=h.trans (k.mono h.size)
theorem al (w:World) (o:Obj):Below w.heap.size w (w.alloc o):=(Below.refl _ _).alloc (Nat.le_refl _) o
theorem an (w:World) (o:Obj):Below w.heap.size w (w.alloc o)∧(w.alloc o).heap[w.heap.size]?=some o:=⟨al w o,aw w o⟩
theorem kp {w w':World} {k:Nat} {o:Obj} (h:Below w.heap.size w w') (H:Hid (w.heap[k]?=some o)):Hid (w'.heap[k]?=some o):=dh (Below.keep h H.out (lb H.out))
theorem cr {w:World} {g:Nat} {A:Array Value} {e:TypeId} {f:Nat × Nat} (h:w.heap[g]?=some (.cells A e f)) (k:Nat):w.cell? ⟨g,k,none⟩=A[k]?:=by
 simp [World.cell?,h]
theorem sar {w:World} {g:Nat} {A:Array Value} {e:TypeId} {f:Nat × Nat} (h:w.heap[g]?=some (.cells A e f)) (k:Nat) (v:Value):(w.setCell ⟨g,k,none⟩ v).heap[g]?=some (.cells (A.setIfInBounds k v) e f):=by
 simp [World.setCell,Array.getElem?_modify,h]
theorem set_other {w:World} {a:Addr} {v:Value} {k:Nat} {o:Obj} (h:w.heap[k]?=some o) (hk:k≠a.block):(w.setCell a v).heap[k]?=some o:=(Below.heap_setCell _ _ _ _ hk).trans h
theorem cu {w w':World} {b o:Nat} (h:w'.heap[b]?=w.heap[b]?):w'.cell? ⟨b,o,none⟩=w.cell? ⟨b,o,none⟩:=by unfold World.cell?;rw [h]
theorem olt {w:World} {base e size:Nat} {v:Value} {n:Nat} {xs:List Value} (h:w.ownsRow base e size v n xs) {g:Nat} (hg:v.ownBlock=some g):g < w.heap.size∧base≤g∧∃ cur,w.heap[g]?=some (.cells cur e (0,0)):=by
 rcases h.2 with ⟨rfl,_⟩ | ⟨g',cap,cur,rfl,hb,hh,_⟩
 ·cases hg
 ·simp only [Value.ownBlock,Option.some.injEq] at hg
  subst hg;exact ⟨lb hh,hb,cur,hh⟩
theorem own_keep {w w':World} {base e size:Nat} {v:Value} {n:Nat} {xs:List Value} (h:w.ownsRow base e size v n xs) (k:∀ g,v.ownBlock=some g→w'.heap[g]?=w.heap[g]?):w'.ownsRow base e size v n xs:=by
 obtain ⟨h1,h2⟩:=h;refine ⟨h1,?_⟩;rcases h2 with h2 | ⟨g,cap,cur,rfl,hb,hh,r⟩
 ·exact .inl h2
 ·exact .inr ⟨g,cap,cur,rfl,hb,(k g rfl).trans hh,r⟩
theorem own_pure {w w':World} {base e size:Nat} {v:Value} {n:Nat} {xs:List Value} (h:w.ownsRow base e size v n xs) (k:Below w.heap.size w w'):w'.ownsRow base e size v n xs:=
 own_keep h fun g hg=>k.block g (olt h hg).1
theorem wp_app {P:Program} {w w':World} {o:Oper} {a:Act} {K:Act→World→Prop} {Q:Exit→Act→World→Prop} (s x:Operand) (t:TypeId) (ho:o.op=.call { callee:=.builtin .append,args:=#[s,x],argTypes:=#[t,t] })
 {vs vx v':Value} (hs:a.eval s=vs) (hx:a.eval x=vx) (hrun:(Builtin.append_ #[t,t] o.type #[vs,vx]).run P w=.ok v' w') (h:K (a.put o.dst v') w'):o.wp P a w K Q:=by
 unfold Oper.wp execOp;simp only [ho,resolve,invoke,builtin,Sem.run_bind,Sem.run_pure,Result.andThen_ok,List.map_toArray,List.map_cons,List.map_nil,hs,hx,hrun];exact h
theorem wj {P:Program} {w w':World} {ops:Array Oper} {rest:List Oper} {o:Oper} {a:Act} {Q:Exit→Act→World→Prop} (hgd:o.guard=none) (s x:Operand) (t:TypeId) (ho:o.op=.call { callee:=.builtin .append,args:=#[s,x],argTypes:=#[t,t] })
 {vs vx v':Value} (hs:a.eval s=vs) (hx:a.eval x=vx) (hrun:(Builtin.append_ #[t,t] o.type #[vs,vx]).run P w=.ok v' w') (h:wpList P ops Q rest (a.put o.dst v') w'):wpList P ops Q (o :: rest) a w:=
 wpList_plain hgd fun _ hK=>wp_app s x t ho hs hx hrun (hK _ _ h)
theorem og {w:World} {base e size:Nat} {v:Value} {n:Nat} {xs:List Value} (h:w.ownsRow base e size v n xs):∃ a c,v=.slice a n c:=by
 rcases h.2 with ⟨rfl,rfl⟩ | ⟨g,cap,cur,rfl,_⟩
 ·exact ⟨none,0,rfl⟩
 ·exact ⟨_,cap,rfl⟩
theorem bg {n:Nat} {w W W':World} {e size:Nat} {v:Value} {k:Nat} {xs:List Value} (h1:Below n w W) (hn:n≤W.heap.size) (hown:W.ownsRow n e size v k xs) (hgr:W.grownBy W' v.ownBlock):Below n w W':=
 ⟨hgr.os.trans h1.os,hgr.tape.trans h1.tape,hgr.output.trans h1.output,Nat.le_trans h1.size hgr.size,fun i hi=>(hgr.block i (by omega) fun e=>by have:=(olt hown e.symm).2.1;omega).trans (h1.block i hi)⟩
/-! ### Bytes and items in memory:ok says which blocks they may lie in -/
def BR (ok:Nat→Prop) (w:World) (a:Option Addr) (n:Nat) (l:List UInt8):Prop:=
 n=l.length∧n≤9223372036854775807∧∀ i (h:i < l.length),∃ b o,a=some ⟨b,o,none⟩∧ok b∧w.cell? ⟨b,o + i,none⟩=some (.int .u8 (l[i].toNat:Int))
structure Ad where
 ab:Option Addr
 nb:Nat
 cb:Nat
 ai:Option Addr
 ni:Nat
 ci:Nat
abbrev v4 (x:It) (A:Ad):Value:=.agg #[.int .i64 x.kind,.int .u64 (x.num:Int),.slice A.ab A.nb A.cb,.slice A.ai A.ni A.ci]
abbrev oc (k n:Int) (ab:Option Addr) (nb cb:Nat) (ai:Option Addr) (ni ci:Nat):Obj:=.cells #[.int .i64 k,.int .u64 n,.slice ab nb cb,.slice ai ni ci] 31
abbrev o4 (x:It) (A:Ad):Obj:=.cells #[.int .i64 x.kind,.int .u64 (x.num:Int),.slice A.ab A.nb A.cb,.slice A.ai A.ni A.ci] 31
mutual
def IR (ok:Nat→Prop) (w:World):It→Ad→Prop
 | .mk _ n b ks,A=>n < 18446744073709551616∧(BR ok w A.ab A.nb b∧A.nb≤A.cb∧A.cb≤9223372036854775807)∧(A.ni=ks.length∧A.ni≤A.ci∧A.ci≤9223372036854775807)∧KR ok w ks A.ai 0
def KR (ok:Nat→Prop) (w:World):List It→Option Addr→Nat→Prop
 | [],_,_=>True
 | k :: ks,a,i=>(∃ b o A,a=some ⟨b,o,none⟩∧ok b∧(w.cell? ⟨b,o + i * 4,none⟩=some (.int .i64 k.kind)∧w.cell? ⟨b,o + i * 4 + 1,none⟩=some (.int .u64 (k.num:Int))∧w.cell? ⟨b,o + i * 4 + 2,none⟩=some (.slice A.ab A.nb A.cb)∧w.cell? ⟨b,o + i * 4 + 3,none⟩=some (.slice A.ai A.ni A.ci))∧IR ok w k A)∧KR ok w ks a (i + 1)
end
def EL (ok:Nat→Prop) (w:World) (k:It) (a:Option Addr) (i:Nat):Prop:=∃ b o A,a=some ⟨b,o,none⟩∧ok b∧(w.cell? ⟨b,o + i * 4,none⟩=some (.int .i64 k.kind)∧w.cell? ⟨b,o + i * 4 + 1,none⟩=some (.int .u64 (k.num:Int))∧w.cell? ⟨b,o + i * 4 + 2,none⟩=some (.slice A.ab A.nb A.cb)∧w.cell? ⟨b,o + i * 4 + 3,none⟩=some (.slice A.ai A.ni A.ci))∧IR ok w k A
theorem KR_iff {ok:Nat→Prop} {w:World} {a:Option Addr}:∀ (l:List It) (i:Nat),KR ok w l a i↔∀ j (h:j < l.length),EL ok w l[j] a (i + j)
 | [],i=>by simp [KR]
 | k :: ks,i=>by
   have ih:=KR_iff (ok:=ok) (w:=w) (a:=a) ks (i + 1);constructor
   ·intro h j hj
    unfold KR at h;cases j with
    | zero=>exact h.1
    | succ j=>
      have:=ih.1 h.2 j (by simpa using hj);have e:i + 1 + j=i + (j + 1):=by omega
      rw [e] at this;exact this
   ·intro h
    unfold KR;refine ⟨h 0 (by simp),ih.2 fun j hj=>?_⟩;have:=h (j + 1) (by simpa using hj);have e:i + 1 + j=i + (j + 1):=by omega
    rw [e];exact this
def TL (ok:Nat→Prop) (w:World) (l:List It) (a:Option Addr) (n:Nat):Prop:=n=l.length∧n≤9223372036854775807∧∀ j (h:j < l.length),EL ok w l[j] a j
theorem IR_iff {ok:Nat→Prop} {w:World} {x:It} {A:Ad}:IR ok w x A↔x.num < 18446744073709551616∧(BR ok w A.ab A.nb x.bytes∧A.nb≤A.cb∧A.cb≤9223372036854775807)∧(TL ok w x.kids A.ai A.ni∧A.ni≤A.ci∧A.ci≤9223372036854775807):=by
 cases x with
 | mk k n b ks=>
   unfold IR TL;rw [KR_iff];simp only [It.kids,It.num,It.bytes,Nat.zero_add];constructor
   ·rintro ⟨h1,h2,h3,h4⟩;exact ⟨h1,h2,⟨h3.1,by omega,h4⟩,h3.2.1,h3.2.2⟩
   ·rintro ⟨h1,h2,h3,h4⟩;exact ⟨h1,h2,⟨h3.1,h4.1,h4.2⟩,h3.2.2⟩
theorem BR.keep {ok ok':Nat→Prop} {w w':World} {a:Option Addr} {n:Nat} {l:List UInt8} (h:BR ok w a n l) (hk:∀ b,ok b→b < w.heap.size→w'.heap[b]?=w.heap[b]?∧ok' b):BR ok' w' a n l:=by
 refine ⟨h.1,h.2.1,fun i hi=>?_⟩;obtain ⟨b,o,e,hb,hc⟩:=h.2.2 i hi;obtain ⟨hw,hb'⟩:=hk b hb (lg hc);exact ⟨b,o,e,hb',(cu hw).trans hc⟩
theorem BR.below {ok:Nat→Prop} {w w':World} {a:Option Addr} {n:Nat} {l:List UInt8} (h:BR ok w a n l) (k:Below w.heap.size w w'):BR ok w' a n l:=h.keep fun b hb hl=>⟨k.block b hl,hb⟩
theorem BR.imp {ok ok':Nat→Prop} {w:World} {a:Option Addr} {n:Nat} {l:List UInt8} (h:BR ok w a n l) (k:∀ b,ok b→b < w.heap.size→ok' b):BR ok' w a n l:=h.keep fun b hb hl=>⟨rfl,k b hb hl⟩
theorem BR.nil (ok:Nat→Prop) (w:World) (a:Option Addr):BR ok w a 0 []:=⟨rfl,by omega,fun i h=>by simp at h⟩
theorem BR.len {ok:Nat→Prop} {w:World} {a:Option Addr} {n:Nat} {l:List UInt8} (h:BR ok w a n l):n=l.length:=h.1
theorem IR.keep {ok ok':Nat→Prop} {w w':World} (hk:∀ b,ok b→b < w.heap.size→w'.heap[b]?=w.heap[b]?∧ok' b) {x:It}:∀ {A:Ad},IR ok w x A→IR ok' w' x A:=by
 refine It.rec (motive_1:=fun x=>∀ {A:Ad},IR ok w x A→IR ok' w' x A) (motive_2:=fun l=>∀ x ∈ l,∀ {A:Ad},IR ok w x A→IR ok' w' x A) ?_ ?_ ?_ x
 ·intro k n b ks ih A h
  rw [IR_iff] at h ⊢;refine ⟨h.1,⟨h.2.1.1.keep hk,h.2.1.2⟩,⟨h.2.2.1.1,h.2.2.1.2.1,fun j hj=>?_⟩,h.2.2.2⟩;obtain ⟨b,o,A',e,hb,c,ht⟩:=h.2.2.1.2.2 j hj;obtain ⟨hw,hb'⟩:=hk b hb (lg c.1);refine ⟨b,o,A',e,hb',⟨?_,?_,?_,?_⟩,ih _ (List.getElem_mem hj) ht⟩
  ·rw [cu hw];exact c.1
  ·rw [cu hw];exact c.2.1
  ·rw [cu hw];exact c.2.2.1
  ·rw [cu hw];exact c.2.2.2
 ·intro t ht;simp at ht
 ·intro k ks h1 h2 t ht
  rcases List.mem_cons.1 ht with rfl | ht
  ·exact h1
  ·exact h2 t ht
theorem IR.below {ok:Nat→Prop} {w w':World} {x:It} {A:Ad} (h:IR ok w x A) (k:Below w.heap.size w w'):IR ok w' x A:=h.keep fun b hb hl=>⟨k.block b hl,hb⟩
theorem IR.imp {ok ok':Nat→Prop} {w:World} {x:It} {A:Ad} (h:IR ok w x A) (k:∀ b,ok b→b < w.heap.size→ok' b):IR ok' w x A:=h.keep fun b hb hl=>⟨rfl,k b hb hl⟩
theorem IR.nb {ok:Nat→Prop} {w:World} {x:It} {A:Ad} (h:IR ok w x A):A.nb=x.bytes.length∧A.nb≤9223372036854775807:=by rw [IR_iff] at h;exact ⟨h.2.1.1.1,h.2.1.1.2.1⟩
theorem IR.ni {ok:Nat→Prop} {w:World} {x:It} {A:Ad} (h:IR ok w x A):A.ni=x.kids.length∧A.ni≤9223372036854775807:=by rw [IR_iff] at h;exact ⟨h.2.2.1.1,h.2.2.1.2.1⟩
theorem IR.num {ok:Nat→Prop} {w:World} {x:It} {A:Ad} (h:IR ok w x A):x.num < 18446744073709551616:=by rw [IR_iff] at h;exact h.1
theorem IR.br {ok:Nat→Prop} {w:World} {x:It} {A:Ad} (h:IR ok w x A):BR ok w A.ab A.nb x.bytes:=by rw [IR_iff] at h;exact h.2.1.1
theorem IR.tl {ok:Nat→Prop} {w:World} {x:It} {A:Ad} (h:IR ok w x A):TL ok w x.kids A.ai A.ni:=by rw [IR_iff] at h;exact h.2.2.1
theorem IR.caps {ok:Nat→Prop} {w:World} {x:It} {A:Ad} (h:IR ok w x A):(A.nb≤A.cb∧A.cb≤9223372036854775807)∧A.ni≤A.ci∧A.ci≤9223372036854775807:=by rw [IR_iff] at h;exact ⟨h.2.1.2,h.2.2.2⟩
theorem EL.keep {ok ok':Nat→Prop} {w w':World} (hk:∀ b,ok b→b < w.heap.size→w'.heap[b]?=w.heap[b]?∧ok' b) {k:It} {a:Option Addr} {i:Nat} (h:EL ok w k a i):EL ok' w' k a i:=by
 obtain ⟨b,o,A,e,hb,c,ht⟩:=h;obtain ⟨hw,hb'⟩:=hk b hb (lg c.1);exact ⟨b,o,A,e,hb',⟨(cu hw).trans c.1,(cu hw).trans c.2.1,(cu hw).trans c.2.2.1,(cu hw).trans c.2.2.2⟩,ht.keep hk⟩
theorem TL.nil (ok:Nat→Prop) (w:World) (a:Option Addr):TL ok w [] a 0:=⟨rfl,by omega,fun j h=>by simp at h⟩
theorem TL.keep {ok ok':Nat→Prop} {w w':World} {l:List It} {a:Option Addr} {n:Nat} (h:TL ok w l a n) (hk:∀ b,ok b→b < w.heap.size→w'.heap[b]?=w.heap[b]?∧ok' b):TL ok' w' l a n:=⟨h.1,h.2.1,fun j hj=>(h.2.2 j hj).keep hk⟩
theorem TL.below {ok:Nat→Prop} {w w':World} {l:List It} {a:Option Addr} {n:Nat} (h:TL ok w l a n) (k:Below w.heap.size w w'):TL ok w' l a n:=h.keep fun b hb hl=>⟨k.block b hl,hb⟩
theorem TL.imp {ok ok':Nat→Prop} {w:World} {l:List It} {a:Option Addr} {n:Nat} (h:TL ok w l a n) (k:∀ b,ok b→b < w.heap.size→ok' b):TL ok' w l a n:=h.keep fun b hb hl=>⟨rfl,k b hb hl⟩
theorem BR.drop {ok:Nat→Prop} {w:World} {l:List UInt8} {b o n:Nat} (h:BR ok w (some ⟨b,o,none⟩) n l) (k:Nat):BR ok w (some ⟨b,o + k,none⟩) (n - k) (l.drop k):=by
 refine ⟨by rw [List.length_drop,h.1],by have:=h.2.1;omega,fun j hj=>?_⟩;rw [List.length_drop] at hj;obtain ⟨b',o',e,hb,c⟩:=h.2.2 (k + j) (by omega);cases e
 refine ⟨b,o + k,rfl,hb,?_⟩;rw [List.getElem_drop,Nat.add_assoc];exact c
theorem BR.take {ok:Nat→Prop} {w:World} {l:List UInt8} {a:Option Addr} {n:Nat} (h:BR ok w a n l) {k:Nat} (hk:k≤n):BR ok w a k (l.take k):=by
 refine ⟨by rw [List.length_take,← h.1];omega,by have:=h.2.1;omega,fun j hj=>?_⟩;rw [List.length_take] at hj;obtain ⟨b',o',e,hb,c⟩:=h.2.2 j (by omega);exact ⟨b',o',e,hb,by rw [List.getElem_take];exact c⟩
theorem tmod_lt (a n:Int) (hn:1≤n) (h:a.tmod n < 0):a.tmod n + n=a % n:=by
 have h0:a < 0:=by
  rcases Int.lt_or_le a 0 with h' | h'
  ·exact h'
  ·have:=Int.tmod_nonneg n h';omega
 have:=Int.tmod_eq_emod (a:=a) (b:=n)
 split at this <;> omega
theorem tmod_ge (a n:Int) (hn:1≤n) (h:0≤a.tmod n):a.tmod n=a % n:=by
 have:=Int.tmod_eq_emod (a:=a) (b:=n);have h3:=Int.emod_lt_of_pos a (show 0 < n by omega)
 split at this <;> omega
set_option maxHeartbeats 400000 in
theorem mod_any (a n:Int) (w:World) (hn:1≤n) (hn':n≤9223372036854775807):
 Calls Tryd.prog 6 #[.int .i64 a,.int .i64 n] w fun e w'=>e=.returned (.int .i64 (a % n))∧w=w':=by
 have h3:=Int.emod_lt_of_pos a (show 0 < n by omega);have h4:=Int.emod_nonneg a (show n≠0 by omega);have h5:=Int.tmod_lt_of_pos a (show 0 < n by omega);have h6:=Int.lt_tmod_of_pos a (show 0 < n by omega);go_enter Tryd.func6,Tryd.ntmps6
 go_wp2
 ·have h:a.tmod n < 0:=by assumption
  go_ret
  exact ⟨ret_int (tmod_lt a n hn h),rfl⟩
 ·have h:0≤a.tmod n:=by assumption
  go_ret
  exact ⟨ret_int (tmod_ge a n hn h),rfl⟩
structure But (b:Nat) (w w':World):Prop where
 os:w'.os=w.os
 tape:w'.tape=w.tape
 output:w'.output=w.output
 size:w.heap.size≤w'.heap.size
 block:∀ k,k < w.heap.size→k≠b→w'.heap[k]?=w.heap[k]?
theorem But.refl (b:Nat) (w:World):But b w w:=⟨rfl,rfl,rfl,Nat.le_refl _,fun _ _ _=>rfl⟩
theorem But.trans {b:Nat} {u v w:World} (h:But b u v) (k:But b v w):But b u w:=
 ⟨k.os.trans h.os,k.tape.trans h.tape,k.output.trans h.output,Nat.le_trans h.size k.size,fun i hi hb=>(k.block i (Nat.lt_of_lt_of_le hi h.size) hb).trans (h.block i hi hb)⟩
theorem But.of_below {b:Nat} {w w':World} (h:Below w.heap.size w w'):But b w w':=⟨h.os,h.tape,h.output,h.size,fun k hk _=>h.block k hk⟩
theorem But.drewN {b:Nat} {u w:World} (h:But b u w) (n:Nat):But b u (w.drewN n):=⟨h.os,h.tape,h.output,h.size,h.block⟩
theorem But.alloc {b:Nat} {u w:World} (h:But b u w) (o:Obj):But b u (w.alloc o):=
 h.trans (But.of_below ((Below.refl _ _).alloc (Nat.le_refl _) o))
theorem But.setCell {b:Nat} {u w:World} (h:But b u w) {p:Addr} (hp:p.block=b) (v:Value):But b u (w.setCell p v):=
 h.trans ⟨rfl,rfl,rfl,by simp [World.setCell],fun k _ hk=>Below.heap_setCell _ _ _ _ (by omega)⟩
theorem But.below {b:Nat} {w w':World} {B:Nat} (h:But b w w') (hB:B≤b) (hs:B≤w.heap.size):Below B w w':=
 ⟨h.os,h.tape,h.output,h.size,fun k hk=>h.block k (by omega) (by omega)⟩
theorem But.cell {b:Nat} {w w':World} (h:But b w w') {p:Addr} (hp:p.block < w.heap.size) (hb:p.block≠b):w'.cell? p=w.cell? p:=World.cell?_of_block (w:=w) (h.block p.block hp hb)
theorem But.frozen {b:Nat} {w w':World} (h:But b w w') {p:Addr} (hp:p.block < w.heap.size) (hb:p.block≠b):w'.frozen? p=w.frozen? p:=World.frozen?_of_block (w:=w) (h.block p.block hp hb)
def Deck (w:World) (b:Nat):Prop:=
 ∃ (la:Option Addr) (len cap i:Nat),w.heap[b]?=some (.cells #[.slice la len cap,.int .i64 i] 68 (0,0))∧i≤len∧len≤9223372036854775807∧
  ∀ j,j < len→∃ bl ol x,la=some ⟨bl,ol,none⟩∧bl < b∧w.cell? ⟨bl,ol + j,none⟩=some (.int .i64 x)
theorem Deck.lt {w:World} {b:Nat} (h:Deck w b):b < w.heap.size:=by
 obtain ⟨_,_,_,_,h,_⟩:=h;exact lb h
theorem Deck.keep {w w':World} {b:Nat} (h:Deck w b) (k:∀ j,j≤b→w'.heap[j]?=w.heap[j]?):Deck w' b:=by
 obtain ⟨la,len,cap,i,h1,h2,h3,h4⟩:=h;refine ⟨la,len,cap,i,(k b (Nat.le_refl _)).trans h1,h2,h3,fun j hj=>?_⟩;obtain ⟨bl,ol,x,e1,e2,e3⟩:=h4 j hj;exact ⟨bl,ol,x,e1,e2,(World.cell?_of_block (w:=w) (k bl (Nat.le_of_lt e2))).trans e3⟩
theorem Deck.below {w w':World} {b:Nat} (h:Deck w b) (k:Below w.heap.size w w'):Deck w' b:=
 h.keep fun j hj=>k.block j (Nat.lt_of_le_of_lt hj h.lt)
theorem Deck.alloc {w:World} {b:Nat} (h:Deck w b) (o:Obj):Deck (w.alloc o) b:=h.below ((Below.refl _ _).alloc (Nat.le_refl _) o)
theorem Deck.drewN {w:World} {b:Nat} (h:Deck w b) (n:Nat):Deck (w.drewN n) b:=h.keep fun _ _=>rfl
theorem Deck.step {w:World} {b:Nat} {la:Option Addr} {len cap i:Nat} (hd:Deck w b) (h:w.heap[b]?=some (.cells #[.slice la len cap,.int .i64 i] 68 (0,0))) (hi:i < len) {n:Nat}:
 Deck ((w.drewN n).setCell ⟨b,1,none⟩ (.int .i64 ((i:Int) + 1))) b:=by
 obtain ⟨la',len',cap',i',h1,h2,h3,h4⟩:=hd;have hb:(w.drewN n).heap[b]?=some (.cells #[.slice la len cap,.int .i64 i] 68 (0,0)):=h;rw [h] at h1;simp only [Option.some.injEq,Obj.cells.injEq,Array.mk.injEq,List.cons.injEq,Value.slice.injEq,Value.int.injEq,true_and,and_true] at h1;obtain ⟨⟨rfl,rfl,rfl⟩,_⟩:=h1;refine ⟨la,len,cap,i + 1,?_,hi,h3,fun j hj=>?_⟩
 ·simp only [World.setCell,Array.getElem?_modify,hb,if_true]
  rfl
 ·obtain ⟨bl,ol,x,e1,e2,e3⟩:=h4 j hj
  exact ⟨bl,ol,x,e1,e2,(World.cell?_of_block (w:=w) (Below.heap_setCell _ _ _ bl (by show bl≠b;omega))).trans e3⟩
def bv (c:UInt8):Value:=.int .u8 (c.toNat:Int)
def OwnB (w:World) (base:Nat) (v:Value) (l:List UInt8):Prop:=w.ownsRow base 5 1 v l.length (l.map bv)
theorem OwnB.nil (w:World) (base:Nat):OwnB w base (.slice none 0 0) []:=⟨rfl,.inl ⟨rfl,rfl⟩⟩
theorem OwnB.pure {w w':World} {base:Nat} {v:Value} {l:List UInt8} (h:OwnB w base v l) (k:Below w.heap.size w w'):OwnB w' base v l:=own_pure h k
theorem OwnB.lower {w:World} {base base':Nat} {v:Value} {l:List UInt8} (h:OwnB w base v l) (k:base'≤base):OwnB w base' v l:=by
 refine ⟨h.1,?_⟩;rcases h.2 with h | ⟨g,cap,cur,e1,e2,r⟩
 ·exact .inl h
 ·exact .inr ⟨g,cap,cur,e1,Nat.le_trans k e2,r⟩
theorem OwnB.br {w:World} {base:Nat} {v:Value} {l:List UInt8} (h:OwnB w base v l):∃ a c,v=.slice a l.length c∧BR (fun b=>base≤b) w a l.length l∧l.length≤c∧c≤9223372036854775807:=by
 rcases h.2 with ⟨rfl,h0⟩ | ⟨g,cap,cur,rfl,hb,hh,hn,hc,hs,ht⟩
 ·have:l=[]:=List.length_eq_zero_iff.1 h0
  subst this;exact ⟨none,0,rfl,BR.nil _ _ _,by simp,by omega⟩
 ·refine ⟨_,cap,rfl,⟨rfl,by unfold maxLen at hc;omega,fun i hi=>⟨g,0,rfl,hb,?_⟩⟩,hn,by unfold maxLen at hc;omega⟩
  rw [cr hh];have h1:(l.map bv)[i]?=some (bv l[i]):=by simp [hi]
  rw [← ht,List.getElem?_take] at h1
  split at h1
  ·simpa [bv] using h1
  ·cases h1
def Src1 (w:World) (a:Option Addr) (len:Nat) (xs:List Value):Prop:=
 xs.length=len∧(∀ j u,xs[j]?=some u→∃ b o,a=some ⟨b,o,none⟩∧w.cell? ⟨b,o + j,none⟩=some u)∧∀ u ∈ xs,u.oneCell'=true
theorem app_run {P:Program} (w:World) (base:Nat) (t ty e:TypeId) (i:TypeInfo) (z:Value) (bytes:Nat) (ht:P.underlying t=some (.slice e)) (hi:P.info? e=some i) (hz:i.zero=some z)
 (hsize:i.size=1) (hby:i.bytes=bytes) (hzs:z.cells.size=1)
 (v:Value) (n:Nat) (xs:List Value) (hown:w.ownsRow base e 1 v n xs) (a:Option Addr) (len c:Nat) (news:List Value) (hs:Src1 w a len news)
 (h63:n + len≤maxLen) (hbytes:(n + len) * bytes≤140737488355328) (hbase:base≤w.heap.size):
 ∃ v' w',(Builtin.append_ #[t,t] ty #[v,.slice a len c]).run P w=.ok v' w'∧w'.ownsRow base e 1 v' (n + len) (xs ++ news)∧w.grownBy w' v.ownBlock∧
  (v'.ownBlock=v.ownBlock∨v'.ownBlock=some w.heap.size):=by
 obtain ⟨hl,hc,h1⟩:=hs;cases a with
 | none=>
   have hn:news=[]:=by
    cases news with
    | nil=>rfl
    | cons x r=>obtain ⟨b,o,h,_⟩:=hc 0 x rfl;cases h
   subst hn;simp at hl;subst hl;refine ⟨v,w,?_,by simpa using hown,⟨rfl,rfl,rfl,Nat.le_refl _,fun _ _ _=>rfl⟩,.inl rfl⟩;rcases hown.2 with ⟨rfl,rfl⟩ | ⟨g,cap,cur,rfl,_,_,hnc,_⟩
   ·simp [Builtin.append_,run_underlying ht,sizeOf,typeInfo,hi,Builtin.lenOf,Builtin.firstCells]
   ·simp [Builtin.append_,run_underlying ht,sizeOf,typeInfo,hi,Builtin.lenOf,Builtin.firstCells,hnc,storeCells]
 | some ad=>
   obtain ⟨v',w',h2,h3,h4,_,h5⟩:=run_append_own_at (P:=P) w base t ty e i z 1 bytes ht hi hz hsize hby hzs (by omega) v n xs hown ad len c news (by omega) (fun j u hu=>by
    obtain ⟨b,o,h,hcell⟩:=hc j u hu;cases h
    have hadd:(⟨b,o,none⟩:Addr).add j=⟨b,o + j,none⟩:=by unfold Addr.add;split <;> simp_all
    rw [hadd];exact hcell) h1 h63 hbytes hbase
   exact ⟨v',w',h2,h3,h4,h5⟩
theorem inf5:(Tryd.prog.info? 5).map (fun i=>(i.zero,i.size,i.bytes))=some (some (.int .u8 0),1,1):=by kernel_rfl
theorem BR.src {ok:Nat→Prop} {w:World} {a:Option Addr} {len:Nat} {l:List UInt8} (h:BR ok w a len l):Src1 w a len (l.map bv):=by
 obtain ⟨h1,h2,h3⟩:=h;refine ⟨by simpa using h1.symm,fun j u hu=>?_,fun u hu=>by simp at hu;obtain ⟨x,_,rfl⟩:=hu;rfl⟩;have hj:j < l.length:=by
  rcases Nat.lt_or_ge j l.length with h | h
  ·exact h
  ·simp [List.getElem?_eq_none h] at hu
 obtain ⟨b,o,e1,_,e2⟩:=h3 j (by omega);refine ⟨b,o,e1,?_⟩;rw [e2];simp [List.getElem?_eq_getElem hj] at hu;rw [← hu];simp [bv]
theorem app_bytes (w:World) (base:Nat) (v:Value) (l:List UInt8) (h:OwnB w base v l) (a:Option Addr) (len c:Nat) (r:List UInt8) (ok:Nat→Prop) (hr:BR ok w a len r) (hsz:l.length + len≤1000000000000) (hb:base≤w.heap.size):
 ∃ a' c' w',(Builtin.append_ #[23,23] 23 #[v,.slice a len c]).run Tryd.prog w=.ok (.slice a' (l.length + len) c') w'∧OwnB w' base (.slice a' (l.length + len) c') (l ++ r)∧w.grownBy w' v.ownBlock∧((Value.slice a' (l.length + len) c').ownBlock=v.ownBlock∨(Value.slice a' (l.length + len) c').ownBlock=some w.heap.size):=by
 obtain ⟨i0,hi,hz0,hz1,hz2⟩:=info_parts inf5;obtain ⟨v',w',h1,h2,h3,h4⟩:=app_run (P:=Tryd.prog) w base 23 23 5 i0 (.int .u8 0) 1 Tryd.underlying23 hi hz0 hz1 hz2 rfl v _ _ h a len c _ hr.src (by unfold maxLen;omega) (by omega) hb;obtain ⟨a',c',rfl⟩:=og h2;refine ⟨a',c',w',h1,?_,h3,h4⟩;unfold OwnB;rw [List.length_append,List.map_append,← hr.1];exact h2
theorem own_lits {w:World} (l:List UInt8) (b:Nat) (hl:l.length≤1000000) (h:w.heap[b]?=some (.cells (l.map bv).toArray 5 (0,0))) (base:Nat) (hb:base≤b):OwnB w base (.slice (some ⟨b,0,none⟩) l.length l.length) l:=by
 refine ⟨by simp,.inr ⟨b,l.length,_,rfl,hb,h,Nat.le_refl _,by unfold maxLen;omega,by simp,?_⟩⟩;rw [List.take_of_length_le (by simp)]
def FB (l:List UInt8) (w:World) (e:Ending) (w':World):Prop:=∃ v,e=.returned v∧OwnB w' w.heap.size v l∧Below w.heap.size w w'
theorem FB.open {l:List UInt8} {w:World} {e:Ending} {w':World} (h:FB l w e w'):∃ a c,e=.returned (.slice a l.length c)∧OwnB w' w.heap.size (.slice a l.length c) l∧BR (fun b=>w.heap.size≤b) w' a l.length l∧l.length≤c∧c≤9223372036854775807∧Below w.heap.size w w':=by
 obtain ⟨v,rfl,h1,h2⟩:=h;obtain ⟨a,c,rfl,h3,h4,h5⟩:=h1.br;exact ⟨a,c,rfl,h1,h3,h4,h5,h2⟩
set_option maxRecDepth 100000
theorem be_get:∀ (m n k:Nat) (h:k < (It.be m n).length),(It.be m n)[k]=UInt8.ofNat (n / 256 ^ (m - 1 - k))
 | 0,n,k,h=>by simp [It.be] at h
 | m + 1,n,k,h=>by
   cases k with
   | zero=>simp [It.be]
   | succ k=>
     simp only [It.be,List.getElem_cons_succ];rw [be_get m n k];congr 3
     omega
theorem be_take (m n k:Nat) (h:k < m):(It.be m n).take (k + 1)=(It.be m n).take k ++ [UInt8.ofNat (n / 256 ^ (m - 1 - k))]:=by
 have hl:k < (It.be m n).length:=by rw [It.be_length];exact h
 rw [List.take_succ_eq_append_getElem hl,be_get m n k hl]
theorem byte_shift (n j:Nat):((n:Int) / 2 ^ (8 * j) % 256)=((UInt8.ofNat (n / 256 ^ j)).toNat:Int):=by
 rw [UInt8.toNat_ofNat'];have:(256:Nat) ^ j=2 ^ (8 * j):=by rw [Nat.pow_mul]
 rw [this]
 show _=(((n / 2 ^ (8 * j)) % 256:Nat):Int)
 push_cast
 rfl
theorem one_br {w:World} {b:Nat} {x:Int} {c:UInt8} (h:w.heap[b]?=some (.cells #[.int .u8 x] 5 (0,0))) (hx:x=(c.toNat:Int)):BR (fun i=>i=b) w (some ⟨b,0,none⟩) 1 [c]:=by
 refine ⟨rfl,by omega,fun i hi=>⟨b,0,rfl,rfl,?_⟩⟩;have:i=0:=by simpa using hi
 subst this;rw [cr h];simp [hx]
theorem push_byte {wr:World} {base:Nat} {v:Value} {l:List UInt8} (hO:OwnB wr base v l) (x:Int) (c:UInt8) (hx:x=(c.toNat:Int)) (hl:l.length≤1000000000) (hb:base≤wr.heap.size):
 ∃ v' W',(Builtin.append_ #[23,23] 23 #[v,.slice (some ⟨wr.heap.size,0,none⟩) 1 1]).run Tryd.prog (wr.alloc (.cells #[.int .u8 x] 5))=.ok v' W'∧OwnB W' base v' (l ++ [c])∧Below base wr W':=by
 have hA:=al wr (.cells #[.int .u8 x] 5);have hN:=aw wr (.cells #[.int .u8 x] 5);obtain ⟨a',c',w',h1,h2,h3,h4⟩:=app_bytes (wr.alloc (.cells #[.int .u8 x] 5)) base v l (hO.pure hA) _ 1 1 [c] _ (one_br hN hx) (by omega) (by have:=hA.size;omega);refine ⟨_,w',h1,h2,?_⟩;exact bg (hA.mono hb) (by have:=hA.size;omega) (hO.pure hA) h3
set_option maxHeartbeats 4000000 in
theorem wide_any (n:Nat) (N:Int) (hN:N=n) (w:World):Calls Tryd.prog 91 #[.int .u64 N] w (FB (It.be 8 n) w):=by
 have HE:=dh hN;have h0:(0:Int)≤N:=by omega
 clear hN;go_enter Tryd.func91,Tryd.ntmps91
 go_wp2
 go_loopw [3,4] (fun v s W=>∃ k:Nat,k≤8∧s=.int .i64 (56 - 8 * (k:Int))∧OwnB W w.heap.size v ((It.be 8 n).take k)∧Below w.heap.size w W) (fun _ s _=>(intOf s + 8).toNat)
 case atStart=>exact ⟨0,by omega,rfl,OwnB.nil _ _,Below.refl _ _⟩
 case round=>
  obtain ⟨k,hk,rfl,hO,hB⟩:=hrel;by_cases hlt:k < 8
  ·obtain ⟨S,hS⟩:∃ S:Int,S=56 - 8 * (k:Int):=⟨_,rfl⟩
   have hS0:0≤S:=by omega
   have hS1:S≤56:=by omega
   have hbyte:N / 2 ^ S.toNat % 256=((UInt8.ofNat (n / 256 ^ (7 - k))).toNat:Int):=by
    rw [← byte_shift,HE.out];have:S.toNat=8 * (7 - k):=by omega
    rw [this]
   obtain ⟨v',W',hrun,hO',hB'⟩:=push_byte hO _ _ hbyte (by rw [List.length_take,It.be_length];omega) hB.size;have HT:=dh (be_take 8 n k hlt);have HO:=dh hO';have HB:=dh (hB.trans hB');rw [← hS];have HS:=dh hS;clear hS hO hB hO' hB' hbyte;go_wp2_with (at_builtin;refine wj rfl _ _ 23 rfl rfl rfl hrun ?_)
   go_roundw
   case rel=>exact ⟨k + 1,by omega,by rw [HS.out];go_num,by rw [HT.out];exact HO.out,HB.out⟩
   case measure=>have:=HS.out;simp [intOf];omega
  ·obtain rfl:k=8:=by omega
   have HO:=dh hO;have HB:=dh hB;clear hO hB;go_wp2_with fail
   go_ret
   have h1:=HO.out;rw [List.take_of_length_le (by rw [It.be_length];omega)] at h1;exact ⟨_,rfl,h1,HB.out⟩
theorem or_head0:∀ m:Fin 8,∀ k:Fin 32,bits .or .u8 ((m.val:Int) * 32) (k.val:Int)=((m.val * 32 + k.val:Nat):Int):=by decide
theorem or_head {m k:Nat} {M K:Int} (hM:M=m) (hK:K=k) (hm:m < 8) (hk:k < 32):bits .or .u8 (M * 32) K=((UInt8.ofNat (m * 32 + k)).toNat:Int):=by
 subst hM hK;rw [It.ofNat_toNat (by omega)];exact or_head0 ⟨m,hm⟩ ⟨k,hk⟩
theorem byte_of {n:Nat} {N:Int} (hN:N=n):N % 256=((UInt8.ofNat n).toNat:Int):=by
 subst hN;rw [UInt8.toNat_ofNat']
 show _=((n % 256:Nat):Int)
 push_cast
 rfl
theorem byte_of_lt {n:Nat} {N:Int} (hN:N=n) (h:N < 256):N=((UInt8.ofNat n).toNat:Int):=by
 rw [← byte_of hN];subst hN;omega
theorem FB.lits {w:World} {A:Array Value} {l:List UInt8} {k:Nat} (hA:A=(l.map bv).toArray) (hk:k=l.length) (hl:l.length≤1000000):FB l w (.returned (.slice (some ⟨w.heap.size,0,none⟩) k k)) (w.alloc (.cells A 5)):=by
 subst hA hk;exact ⟨_,rfl,own_lits l _ hl (aw _ _) _ (Nat.le_refl _),al _ _⟩
theorem bv_eq {x:Int} {c:UInt8} (h:x=(c.toNat:Int)):Value.int .u8 x=bv c:=by rw [h];rfl
theorem be2 (n:Nat):It.be 2 n=[UInt8.ofNat (n / 256),UInt8.ofNat n]:=by simp [It.be]
theorem be4 (n:Nat):It.be 4 n=[UInt8.ofNat (n / 16777216),UInt8.ofNat (n / 65536),UInt8.ofNat (n / 256),UInt8.ofNat n]:=by simp [It.be]
theorem be1 (n:Nat):It.be 1 n=[UInt8.ofNat n]:=by simp [It.be]
theorem byte_div {n:Nat} {N:Int} (hN:N=n) (d:Nat) (D:Int) (hD:D=d):N / D % 256=((UInt8.ofNat (n / d)).toNat:Int):=by
 refine byte_of (N:=N / D) ?_;subst hN hD
 norm_cast
theorem byte_div_lt {n:Nat} {N:Int} (hN:N=n) (d:Nat) (D:Int) (hD:D=d) (h:N / D < 256):N / D=((UInt8.ofNat (n / d)).toNat:Int):=by
 refine byte_of_lt (N:=N / D) ?_ h;subst hN hD
 norm_cast
set_option maxHeartbeats 4000000 in
theorem head_any (m n:Nat) (N:Int) (hN:N=n) (M:Int) (hM:M=m) (hm:m < 8) (w:World):Calls Tryd.prog 64 #[.int .u8 M,.int .u64 N] w (FB (It.head m n) w):=by
 have h0:(0:Int)≤N:=by omega
 have m0:(0:Int)≤M:=by omega
 have m1:M < 8:=by omega
 have HE:=dh hN;have HM:=dh hM;clear hN hM;by_cases c1:N < 24
 ·go_enter Tryd.func64,Tryd.ntmps64
  go_wp2_with fail
  go_ret
  have hn:n < 24:=by have:=HE.out;omega
  have:It.head m n=[UInt8.ofNat (m * 32 + n)]:=by unfold It.head;rw [if_pos hn]
  rw [this];refine FB.lits ?_ rfl (by simp);rw [bv_eq (or_head HM.out HE.out hm (by omega))];rfl
 by_cases c2:N < 256
 ·go_enter Tryd.func64,Tryd.ntmps64
  go_wp2_with fail
  go_ret
  have e:=HE.out;have:It.head m n=[UInt8.ofNat (m * 32 + 24),UInt8.ofNat n]:=by unfold It.head;rw [if_neg (by omega),if_pos (by omega),be1]
  rw [this];refine FB.lits ?_ rfl (by simp);rw [bv_eq (or_head HM.out (K:=24) (k:=24) rfl hm (by omega)),bv_eq (byte_of_lt e c2)];rfl
 by_cases c3:N < 65536
 ·go_enter Tryd.func64,Tryd.ntmps64
  go_wp2_with fail
  go_ret
  have e:=HE.out;have:It.head m n=[UInt8.ofNat (m * 32 + 25),UInt8.ofNat (n / 256),UInt8.ofNat n]:=by unfold It.head;rw [if_neg (by omega),if_neg (by omega),if_pos (by omega),be2]
  rw [this];refine FB.lits ?_ rfl (by simp);rw [bv_eq (or_head HM.out (K:=25) (k:=25) rfl hm (by omega)),bv_eq (byte_of e),bv_eq (byte_div_lt e 256 256 rfl (by omega))];rfl
 by_cases c4:N < 4294967296
 ·go_enter Tryd.func64,Tryd.ntmps64
  go_wp2_with fail
  go_ret
  have e:=HE.out;have:It.head m n=[UInt8.ofNat (m * 32 + 26),UInt8.ofNat (n / 16777216),UInt8.ofNat (n / 65536),UInt8.ofNat (n / 256),UInt8.ofNat n]:=by unfold It.head;rw [if_neg (by omega),if_neg (by omega),if_neg (by omega),if_pos (by omega),be4]
  rw [this];refine FB.lits ?_ rfl (by simp);rw [bv_eq (or_head HM.out (K:=26) (k:=26) rfl hm (by omega)),bv_eq (byte_of e),bv_eq (byte_div e 256 256 rfl),bv_eq (byte_div e 65536 65536 rfl),bv_eq (byte_div_lt e 16777216 16777216 rfl (by omega))];rfl
 ·have HH:Hid (It.head m n=UInt8.ofNat (m * 32 + 27) :: It.be 8 n):=by
   have e:=HE.out;refine dh ?_;unfold It.head;rw [if_neg (by omega),if_neg (by omega),if_neg (by omega),if_neg (by omega)]
  go_enter Tryd.func64,Tryd.ntmps64
  go_wp2_with fail
  have P1:=al w (.cells #[.int .u8 (bits .or .u8 (M * 32) 27)] 5);have O1:OwnB (w.alloc (.cells #[.int .u8 (bits .or .u8 (M * 32) 27)] 5)) w.heap.size (.slice (some ⟨w.heap.size,0,none⟩) 1 1) [UInt8.ofNat (m * 32 + 27)]:=by
   refine own_lits [UInt8.ofNat (m * 32 + 27)] _ (by simp) ?_ _ (Nat.le_refl _);rw [aw,bv_eq (or_head HM.out (K:=27) (k:=27) rfl hm (by omega))];rfl
  generalize w.alloc (.cells #[.int .u8 (bits .or .u8 (M * 32) 27)] 5)=w1 at *;have HP1:=dh P1;have HO1:=dh O1;clear P1 O1;go_loopw [6,7] (fun v s W=>∃ k:Nat,k≤8∧s=.int .i64 (56 - 8 * (k:Int))∧OwnB W w.heap.size v (UInt8.ofNat (m * 32 + 27) :: (It.be 8 n).take k)∧Below w.heap.size w W) (fun _ s _=>(intOf s + 8).toNat)
  case atStart=>exact ⟨0,by omega,rfl,HO1.out,HP1.out⟩
  case round=>
   obtain ⟨k,hk,rfl,hO,hB⟩:=hrel;by_cases hlt:k < 8
   ·obtain ⟨S,hS⟩:∃ S:Int,S=56 - 8 * (k:Int):=⟨_,rfl⟩
    have hS0:0≤S:=by omega
    have hS1:S≤56:=by omega
    have hbyte:N / 2 ^ S.toNat % 256=((UInt8.ofNat (n / 256 ^ (7 - k))).toNat:Int):=by
     rw [← byte_shift,HE.out];have:S.toNat=8 * (7 - k):=by omega
     rw [this]
    obtain ⟨v',W',hrun,hO',hB'⟩:=push_byte hO _ _ hbyte (by simp [List.length_take,It.be_length];omega) hB.size;have HT:=dh (be_take 8 n k hlt);have HO:=dh hO';have HB:=dh (hB.trans hB');rw [← hS];have HS:=dh hS;clear hS hO hB hO' hB' hbyte;go_wp2_with (at_builtin;refine wj rfl _ _ 23 rfl rfl rfl hrun ?_)
    go_roundw
    case rel=>exact ⟨k + 1,by omega,by rw [HS.out];go_num,by rw [HT.out];exact HO.out,HB.out⟩
    case measure=>have:=HS.out;simp [intOf];omega
   ·obtain rfl:k=8:=by omega
    have HO:=dh hO;have HB:=dh hB;clear hO hB;go_wp2_with fail
    go_ret
    have h1:=HO.out;rw [List.take_of_length_le (by rw [It.be_length];omega)] at h1;rw [HH.out];exact ⟨_,rfl,h1,HB.out⟩
set_option maxHeartbeats 4000000 in
theorem rhead_1 (m n:Nat) (N:Int) (hN:N=n) (M:Int) (hM:M=m) (hm:m < 8) (w:World) (g1:24≤N) (g2:N < 256):Calls Tryd.prog 61 #[.int .i64 M,.int .u64 N] w (FB (It.head m n) w):=by
 have h0:(0:Int)≤N:=by omega
 have m0:(0:Int)≤M:=by omega
 have m1:M < 8:=by omega
 have HE:=dh hN;have HM:=dh hM;have HH:Hid (It.head m n=UInt8.ofNat (m * 32 + 24) :: It.be 1 n):=by
  refine dh ?_;unfold It.head;rw [if_neg (by omega),if_pos (by omega)]
 clear hN hM;have c1:24≤N:=by omega
 have P0:=al w (.cells #[.int .u8 (32 * M + 24)] 5);have N0:=aw w (.cells #[.int .u8 (32 * M + 24)] 5);have O1:OwnB (w.alloc (.cells #[.int .u8 (32 * M + 24)] 5)) w.heap.size (.slice (some ⟨w.heap.size,0,none⟩) 1 1) [UInt8.ofNat (m * 32 + 24)]:=by
  refine own_lits [UInt8.ofNat (m * 32 + 24)] _ (by simp) ?_ _ (Nat.le_refl _);rw [aw,bv_eq (byte_of_lt (n:=m * 32 + 24) (by have:=HM.out;omega) (by omega))];rfl
 have e1:32 * M + 24 + 0=32 * M + 24:=by omega
 have HE1:=dh e1;have HP1:=dh P0;have HO1:=dh O1;clear P0 O1 N0 e1;go_enter Tryd.func61,Tryd.ntmps61
 go_wp2_with fail
 generalize w.alloc (.cells #[.int .u8 (32 * M + 24)] 5)=w1 at *;go_loopw [5,7] (fun v s W=>∃ k:Nat,k≤1∧s=.int .i64 (0 - (k:Int))∧OwnB W w.heap.size v (UInt8.ofNat (m * 32 + 24) :: (It.be 1 n).take k)∧Below w.heap.size w W) (fun _ s _=>(intOf s + 1).toNat)
 case atStart=>exact ⟨0,by omega,rfl,HO1.out,HP1.out⟩
 case round=>
  obtain ⟨k,hk,rfl,hO,hB⟩:=hrel;by_cases hlt:k < 1
  ·obtain ⟨S,hS⟩:∃ S:Int,S=0 - (k:Int):=⟨_,rfl⟩
   have hS0:0≤S:=by omega
   have hS1:S≤0:=by omega
   have hbyte:N / 2 ^ (8 * S).toNat % 256=((UInt8.ofNat (n / 256 ^ (0 - k))).toNat:Int):=by
    rw [← byte_shift,HE.out];have:(8 * S).toNat=8 * (0 - k):=by omega
    rw [this]
   obtain ⟨v',W',hrun,hO',hB'⟩:=push_byte hO _ _ hbyte (by simp [List.length_take,It.be_length];omega) hB.size;have HT:=dh (be_take 1 n k hlt);have HO:=dh hO';have HB:=dh (hB.trans hB');rw [← hS];have HS:=dh hS;clear hS hO hB hO' hB' hbyte;go_wp2_with (at_builtin;refine wj rfl _ _ 23 rfl rfl rfl hrun ?_)
   go_roundw
   case rel=>exact ⟨k + 1,by omega,by rw [HS.out];go_num,by rw [HT.out];exact HO.out,HB.out⟩
   case measure=>have:=HS.out;simp [intOf];omega
  ·obtain rfl:k=1:=by omega
   have HO:=dh hO;have HB:=dh hB;clear hO hB;go_wp2_with fail
   go_ret
   have h1:=HO.out;rw [List.take_of_length_le (by rw [It.be_length];omega)] at h1;rw [HH.out];exact ⟨_,rfl,h1,HB.out⟩
set_option maxHeartbeats 4000000 in
theorem rhead_2 (m n:Nat) (N:Int) (hN:N=n) (M:Int) (hM:M=m) (hm:m < 8) (w:World) (g1:256≤N) (g2:N < 65536):Calls Tryd.prog 61 #[.int .i64 M,.int .u64 N] w (FB (It.head m n) w):=by
 have h0:(0:Int)≤N:=by omega
 have m0:(0:Int)≤M:=by omega
 have m1:M < 8:=by omega
 have HE:=dh hN;have HM:=dh hM;have HH:Hid (It.head m n=UInt8.ofNat (m * 32 + 25) :: It.be 2 n):=by
  refine dh ?_;unfold It.head;rw [if_neg (by omega),if_neg (by omega),if_pos (by omega)]
 clear hN hM;have c1:24≤N:=by omega
 have c2:256≤N:=by omega
 have P0:=al w (.cells #[.int .u8 (32 * M + 25)] 5);have N0:=aw w (.cells #[.int .u8 (32 * M + 25)] 5);have O1:OwnB (w.alloc (.cells #[.int .u8 (32 * M + 25)] 5)) w.heap.size (.slice (some ⟨w.heap.size,0,none⟩) 1 1) [UInt8.ofNat (m * 32 + 25)]:=by
  refine own_lits [UInt8.ofNat (m * 32 + 25)] _ (by simp) ?_ _ (Nat.le_refl _);rw [aw,bv_eq (byte_of_lt (n:=m * 32 + 25) (by have:=HM.out;omega) (by omega))];rfl
 have e1:32 * M + 24 + 1=32 * M + 25:=by omega
 have HE1:=dh e1;have HP1:=dh P0;have HO1:=dh O1;clear P0 O1 N0 e1;go_enter Tryd.func61,Tryd.ntmps61
 go_wp2_with fail
 rw [HE1.out];generalize w.alloc (.cells #[.int .u8 (32 * M + 25)] 5)=w1 at *;go_loopw [5,7] (fun v s W=>∃ k:Nat,k≤2∧s=.int .i64 (1 - (k:Int))∧OwnB W w.heap.size v (UInt8.ofNat (m * 32 + 25) :: (It.be 2 n).take k)∧Below w.heap.size w W) (fun _ s _=>(intOf s + 1).toNat)
 case atStart=>exact ⟨0,by omega,rfl,HO1.out,HP1.out⟩
 case round=>
  obtain ⟨k,hk,rfl,hO,hB⟩:=hrel;by_cases hlt:k < 2
  ·obtain ⟨S,hS⟩:∃ S:Int,S=1 - (k:Int):=⟨_,rfl⟩
   have hS0:0≤S:=by omega
   have hS1:S≤1:=by omega
   have hbyte:N / 2 ^ (8 * S).toNat % 256=((UInt8.ofNat (n / 256 ^ (1 - k))).toNat:Int):=by
    rw [← byte_shift,HE.out];have:(8 * S).toNat=8 * (1 - k):=by omega
    rw [this]
   obtain ⟨v',W',hrun,hO',hB'⟩:=push_byte hO _ _ hbyte (by simp [List.length_take,It.be_length];omega) hB.size;have HT:=dh (be_take 2 n k hlt);have HO:=dh hO';have HB:=dh (hB.trans hB');rw [← hS];have HS:=dh hS;clear hS hO hB hO' hB' hbyte;go_wp2_with (at_builtin;refine wj rfl _ _ 23 rfl rfl rfl hrun ?_)
   go_roundw
   case rel=>exact ⟨k + 1,by omega,by rw [HS.out];go_num,by rw [HT.out];exact HO.out,HB.out⟩
   case measure=>have:=HS.out;simp [intOf];omega
  ·obtain rfl:k=2:=by omega
   have HO:=dh hO;have HB:=dh hB;clear hO hB;go_wp2_with fail
   go_ret
   have h1:=HO.out;rw [List.take_of_length_le (by rw [It.be_length];omega)] at h1;rw [HH.out];exact ⟨_,rfl,h1,HB.out⟩
set_option maxHeartbeats 4000000 in
theorem rhead_4 (m n:Nat) (N:Int) (hN:N=n) (M:Int) (hM:M=m) (hm:m < 8) (w:World) (g1:65536≤N) (g2:N < 4294967296):Calls Tryd.prog 61 #[.int .i64 M,.int .u64 N] w (FB (It.head m n) w):=by
 have h0:(0:Int)≤N:=by omega
 have m0:(0:Int)≤M:=by omega
 have m1:M < 8:=by omega
 have HE:=dh hN;have HM:=dh hM;have HH:Hid (It.head m n=UInt8.ofNat (m * 32 + 26) :: It.be 4 n):=by
  refine dh ?_;unfold It.head;rw [if_neg (by omega),if_neg (by omega),if_neg (by omega),if_pos (by omega)]
 clear hN hM;have c1:24≤N:=by omega
 have c2:256≤N:=by omega
 have c3:65536≤N:=by omega
 have P0:=al w (.cells #[.int .u8 (32 * M + 26)] 5);have N0:=aw w (.cells #[.int .u8 (32 * M + 26)] 5);have O1:OwnB (w.alloc (.cells #[.int .u8 (32 * M + 26)] 5)) w.heap.size (.slice (some ⟨w.heap.size,0,none⟩) 1 1) [UInt8.ofNat (m * 32 + 26)]:=by
  refine own_lits [UInt8.ofNat (m * 32 + 26)] _ (by simp) ?_ _ (Nat.le_refl _);rw [aw,bv_eq (byte_of_lt (n:=m * 32 + 26) (by have:=HM.out;omega) (by omega))];rfl
 have e1:32 * M + 24 + 2=32 * M + 26:=by omega
 have HE1:=dh e1;have HP1:=dh P0;have HO1:=dh O1;clear P0 O1 N0 e1;go_enter Tryd.func61,Tryd.ntmps61
 go_wp2_with fail
 rw [HE1.out];generalize w.alloc (.cells #[.int .u8 (32 * M + 26)] 5)=w1 at *;go_loopw [5,7] (fun v s W=>∃ k:Nat,k≤4∧s=.int .i64 (3 - (k:Int))∧OwnB W w.heap.size v (UInt8.ofNat (m * 32 + 26) :: (It.be 4 n).take k)∧Below w.heap.size w W) (fun _ s _=>(intOf s + 1).toNat)
 case atStart=>exact ⟨0,by omega,rfl,HO1.out,HP1.out⟩
 case round=>
  obtain ⟨k,hk,rfl,hO,hB⟩:=hrel;by_cases hlt:k < 4
  ·obtain ⟨S,hS⟩:∃ S:Int,S=3 - (k:Int):=⟨_,rfl⟩
   have hS0:0≤S:=by omega
   have hS1:S≤3:=by omega
   have hbyte:N / 2 ^ (8 * S).toNat % 256=((UInt8.ofNat (n / 256 ^ (3 - k))).toNat:Int):=by
    rw [← byte_shift,HE.out];have:(8 * S).toNat=8 * (3 - k):=by omega
    rw [this]
   obtain ⟨v',W',hrun,hO',hB'⟩:=push_byte hO _ _ hbyte (by simp [List.length_take,It.be_length];omega) hB.size;have HT:=dh (be_take 4 n k hlt);have HO:=dh hO';have HB:=dh (hB.trans hB');rw [← hS];have HS:=dh hS;clear hS hO hB hO' hB' hbyte;go_wp2_with (at_builtin;refine wj rfl _ _ 23 rfl rfl rfl hrun ?_)
   go_roundw
   case rel=>exact ⟨k + 1,by omega,by rw [HS.out];go_num,by rw [HT.out];exact HO.out,HB.out⟩
   case measure=>have:=HS.out;simp [intOf];omega
  ·obtain rfl:k=4:=by omega
   have HO:=dh hO;have HB:=dh hB;clear hO hB;go_wp2_with fail
   go_ret
   have h1:=HO.out;rw [List.take_of_length_le (by rw [It.be_length];omega)] at h1;rw [HH.out];exact ⟨_,rfl,h1,HB.out⟩
set_option maxHeartbeats 4000000 in
theorem rhead_8 (m n:Nat) (N:Int) (hN:N=n) (M:Int) (hM:M=m) (hm:m < 8) (w:World) (g1:4294967296≤N):Calls Tryd.prog 61 #[.int .i64 M,.int .u64 N] w (FB (It.head m n) w):=by
 have h0:(0:Int)≤N:=by omega
 have m0:(0:Int)≤M:=by omega
 have m1:M < 8:=by omega
 have HE:=dh hN;have HM:=dh hM;have HH:Hid (It.head m n=UInt8.ofNat (m * 32 + 27) :: It.be 8 n):=by
  refine dh ?_;unfold It.head;rw [if_neg (by omega),if_neg (by omega),if_neg (by omega),if_neg (by omega)]
 clear hN hM;have c1:24≤N:=by omega
 have c2:256≤N:=by omega
 have c3:65536≤N:=by omega
 have P0:=al w (.cells #[.int .u8 (32 * M + 27)] 5);have N0:=aw w (.cells #[.int .u8 (32 * M + 27)] 5);have O1:OwnB (w.alloc (.cells #[.int .u8 (32 * M + 27)] 5)) w.heap.size (.slice (some ⟨w.heap.size,0,none⟩) 1 1) [UInt8.ofNat (m * 32 + 27)]:=by
  refine own_lits [UInt8.ofNat (m * 32 + 27)] _ (by simp) ?_ _ (Nat.le_refl _);rw [aw,bv_eq (byte_of_lt (n:=m * 32 + 27) (by have:=HM.out;omega) (by omega))];rfl
 have e1:32 * M + 24 + 3=32 * M + 27:=by omega
 have HE1:=dh e1;have HP1:=dh P0;have HO1:=dh O1;clear P0 O1 N0 e1;go_enter Tryd.func61,Tryd.ntmps61
 go_wp2_with fail
 rw [HE1.out];generalize w.alloc (.cells #[.int .u8 (32 * M + 27)] 5)=w1 at *;go_loopw [5,7] (fun v s W=>∃ k:Nat,k≤8∧s=.int .i64 (7 - (k:Int))∧OwnB W w.heap.size v (UInt8.ofNat (m * 32 + 27) :: (It.be 8 n).take k)∧Below w.heap.size w W) (fun _ s _=>(intOf s + 1).toNat)
 case atStart=>exact ⟨0,by omega,rfl,HO1.out,HP1.out⟩
 case round=>
  obtain ⟨k,hk,rfl,hO,hB⟩:=hrel;by_cases hlt:k < 8
  ·obtain ⟨S,hS⟩:∃ S:Int,S=7 - (k:Int):=⟨_,rfl⟩
   have hS0:0≤S:=by omega
   have hS1:S≤7:=by omega
   have hbyte:N / 2 ^ (8 * S).toNat % 256=((UInt8.ofNat (n / 256 ^ (7 - k))).toNat:Int):=by
    rw [← byte_shift,HE.out];have:(8 * S).toNat=8 * (7 - k):=by omega
    rw [this]
   obtain ⟨v',W',hrun,hO',hB'⟩:=push_byte hO _ _ hbyte (by simp [List.length_take,It.be_length];omega) hB.size;have HT:=dh (be_take 8 n k hlt);have HO:=dh hO';have HB:=dh (hB.trans hB');rw [← hS];have HS:=dh hS;clear hS hO hB hO' hB' hbyte;go_wp2_with (at_builtin;refine wj rfl _ _ 23 rfl rfl rfl hrun ?_)
   go_roundw
   case rel=>exact ⟨k + 1,by omega,by rw [HS.out];go_num,by rw [HT.out];exact HO.out,HB.out⟩
   case measure=>have:=HS.out;simp [intOf];omega
  ·obtain rfl:k=8:=by omega
   have HO:=dh hO;have HB:=dh hB;clear hO hB;go_wp2_with fail
   go_ret
   have h1:=HO.out;rw [List.take_of_length_le (by rw [It.be_length];omega)] at h1;rw [HH.out];exact ⟨_,rfl,h1,HB.out⟩
set_option maxHeartbeats 4000000 in
theorem rhead_any (m n:Nat) (N:Int) (hN:N=n) (M:Int) (hM:M=m) (hm:m < 8) (w:World):Calls Tryd.prog 61 #[.int .i64 M,.int .u64 N] w (FB (It.head m n) w):=by
 by_cases c1:N < 24
 ·have h0:(0:Int)≤N:=by omega
  have m0:(0:Int)≤M:=by omega
  have m1:M < 8:=by omega
  have HE:=dh hN;have HM:=dh hM;clear hN hM;go_enter Tryd.func61,Tryd.ntmps61
  go_wp2_with fail
  go_ret
  have hn:n < 24:=by have:=HE.out;omega
  have:It.head m n=[UInt8.ofNat (m * 32 + n)]:=by unfold It.head;rw [if_pos hn]
  rw [this];refine ⟨_,rfl,own_lits [UInt8.ofNat (m * 32 + n)] _ (by simp) ?_ _ (by simp),(al _ _).trans ((al _ _).mono (by simp))⟩;rw [alloc_new' _ _ _ (by simp),bv_eq (byte_of_lt (n:=m * 32 + n) (N:=32 * M + N) (by have:=HM.out;have:=HE.out;omega) (by omega))];rfl
 by_cases c2:N < 256
 ·exact rhead_1 m n N hN M hM hm w (by omega) c2
 by_cases c3:N < 65536
 ·exact rhead_2 m n N hN M hM hm w (by omega) c3
 by_cases c4:N < 4294967296
 ·exact rhead_4 m n N hN M hM hm w (by omega) c4
 ·exact rhead_8 m n N hN M hM hm w (by omega)
theorem and_mask (k:Nat) (hk:k≤64) {n:Nat} {N:Int} (hN:N=n) (hn:n < 18446744073709551616) (K:Int) (hK:K=((2 ^ k - 1:Nat):Int)):bits .and .u64 N K=((n % 2 ^ k:Nat):Int):=by
 subst hN hK;have h2:2 ^ k≤2 ^ 64:=Nat.pow_le_pow_right (by omega) hk;have h3:0 < 2 ^ k:=Nat.two_pow_pos k;rw [u64_and_nat _ _ hn (by omega),Nat.and_two_pow_sub_one_eq_mod]
theorem shr_nat {n:Nat} {N:Int} (hN:N=n) (d:Nat) (D:Int) (hD:D=d):N / D=((n / d:Nat):Int):=by subst hN hD;norm_cast
set_option maxHeartbeats 4000000 in
theorem isnan_any (n:Nat) (N:Int) (hN:N=n) (hn:n < 18446744073709551616) (w:World):Calls Tryd.prog 57 #[.int .u64 N] w fun e w'=>e=.returned (.bool (Fl.isNaN n))∧w=w':=by
 have h0:(0:Int)≤N:=by omega
 obtain ⟨E,hE⟩:∃ E:Int,E=((n / 4503599627370496 % 2048:Nat):Int):=⟨_,rfl⟩;obtain ⟨F,hF⟩:∃ F:Int,F=((n % 4503599627370496:Nat):Int):=⟨_,rfl⟩;have b1:bits .and .u64 (N / 4503599627370496) 2047=E:=by rw [hE];exact and_mask 11 (by omega) (shr_nat hN 4503599627370496 _ rfl) (by omega) _ rfl
 have b2:bits .and .u64 N 4503599627370495=F:=by rw [hF];exact and_mask 52 (by omega) hN hn _ rfl
 have r:Fl.isNaN n=(E==2047 && F !=0):=by
  unfold Fl.isNaN;rw [hE,hF,Bool.eq_iff_iff];simp;omega
 rw [r];clear r hE hF hn hN;go_enter Tryd.func57,Tryd.ntmps57
 by_cases h1:E=2047
 ·subst h1
  by_cases h2:F=0
  ·subst h2
   go_wp2_with fail
   go_ret
   exact ⟨rfl,rfl⟩
  ·have h3:(F !=0)=true:=by simpa using h2
   go_wp2_with fail
   go_ret
   exact ⟨by rw [h3];rfl,rfl⟩
 ·have h3:(E==2047)=false:=by simpa using h1
  go_wp2_with fail
  go_ret
  exact ⟨by rw [h3];rfl,rfl⟩
theorem or_hi (k:Nat) {a b:Nat} {A B:Int} (hA:A=((a * 2 ^ k:Nat):Int)) (hB:B=(b:Int)) (hb:b < 2 ^ k) (h64:a * 2 ^ k + b < 18446744073709551616):bits .or .u64 A B=((a * 2 ^ k + b:Nat):Int):=by
 subst hA hB;rw [u64_or_nat _ _ (by omega) (by omega),Nat.mul_comm a,Nat.two_pow_add_eq_or_of_lt hb]
theorem or_lo (k:Nat) {a b:Nat} {A B:Int} (hA:A=((a * 2 ^ k:Nat):Int)) (hB:B=(b:Int)) (hb:b < 2 ^ k) (h64:a * 2 ^ k + b < 18446744073709551616):bits .or .u64 B A=((a * 2 ^ k + b:Nat):Int):=by
 subst hA hB;rw [u64_or_nat _ _ (by omega) (by omega),Nat.or_comm,Nat.mul_comm a,Nat.two_pow_add_eq_or_of_lt hb]
theorem wrap_u64 {x:Int} (h0:0≤x) (h1:x < 18446744073709551616):IntKind.u64.wrap x=x:=by
 show x % 18446744073709551616=x
 omega
structure Parts (n:Nat) (N G E M:Int):Prop where
 g0:0≤G
 g1:G≤1
 e0:0≤E
 e1:E≤2047
 m0:0≤M
 m1:M < 4503599627370496
 hG:G=((n / 9223372036854775808:Nat):Int)
 hE:E=((n / 4503599627370496 % 2048:Nat):Int)
 hM:M=((n % 4503599627370496:Nat):Int)
 q1:N / 9223372036854775808=G
 q2:bits .and .u64 (N / 4503599627370496) 2047=E
 q3:bits .and .u64 N 4503599627370495=M
theorem parts {n:Nat} {N:Int} (hN:N=n) (hn:n < 18446744073709551616):∃ G E M,Parts n N G E M:=
 ⟨((n / 9223372036854775808:Nat):Int),((n / 4503599627370496 % 2048:Nat):Int),((n % 4503599627370496:Nat):Int),by omega,by omega,by omega,by omega,by omega,by omega,rfl,rfl,rfl,
   shr_nat hN 9223372036854775808 _ rfl,and_mask 11 (by omega) (shr_nat hN 4503599627370496 _ rfl) (by omega) _ rfl,and_mask 52 (by omega) hN hn _ rfl⟩
def NP (r:Option Nat) (w:World) (e:Ending) (w':World):Prop:=∃ (v:Int) (b:Bool),e=.returned (.tuple #[.int .u64 v,.bool b])∧b=r.isSome∧(∀ s,r=some s→v=(s:Int))∧w=w'
theorem NP.no {w:World} {v:Int}:NP .none w (.returned (.tuple #[.int .u64 v,.bool false])) w:=⟨v,false,rfl,rfl,(fun s h=>by cases h),rfl⟩
theorem NP.yes {w:World} {v:Int} {s:Nat} (h:v=s):NP (some s) w (.returned (.tuple #[.int .u64 v,.bool true])) w:=⟨v,true,rfl,rfl,(fun s' h'=>by cases h';exact h),rfl⟩
theorem NP.test {w:World} {v:Int} {s:Nat} {p:Prop} [Decidable p] {t:Bool} (ht:t=decide p) (h:v=s):NP (if p then some s else .none) w (.returned (.tuple #[.int .u64 v,.bool t])) w:=by
 subst ht;by_cases hp:p
 ·rw [if_pos hp,decide_eq_true hp];exact .yes h
 ·rw [if_neg hp,decide_eq_false hp];exact .no
set_option maxHeartbeats 4000000 in
theorem narS_any (n:Nat) (N:Int) (hN:N=n) (hn:n < 18446744073709551616) (w:World):Calls Tryd.prog 88 #[.int .u64 N,.int .i64 8,.int .i64 23] w (NP (Fl.narrowS n) w):=by
 obtain ⟨G,E,M,⟨g0,g1,e0,e1,m0,m1,hG,hE,hM,q1,q2,q3⟩⟩:=parts hN hn;clear hN hn;unfold Fl.narrowS
 dsimp only
 generalize n / 9223372036854775808=g at *;generalize n / 4503599627370496 % 2048=e at *;generalize n % 4503599627370496=m at *;clear n;have HG:=dh hG;have HE:=dh hE;have HM:=dh hM;clear hG hE hM;have tm:(M==0)=decide (m=0):=by have:=HM.out;rw [Bool.eq_iff_iff];simp;omega
 by_cases c1:E=2047
 ·have hb:Hid (bits .or .u64 (G * 2147483648) 2139095040=((g * 2147483648 + 2139095040:Nat):Int)):=dh (or_hi 31 (by have:=HG.out;omega) rfl (by omega) (by have:=HG.out;omega))
  rw [if_pos (by have:=HE.out;omega)];subst c1;have HT:=dh tm;clear tm;obtain ⟨R,hR⟩:∃ R,R=(if m=0 then some (g * 2147483648 + 2139095040) else .none:Option Nat):=⟨_,rfl⟩;rw [← hR];have HR:=dh hR;clear hR;go_enter Tryd.func88,Tryd.ntmps88
  go_wp2_with fail
  go_ret2
  rw [HR.out];exact NP.test HT.out hb.out
 have b1:(E==2047)=false:=by simpa using c1
 rw [if_neg (by have:=HE.out;omega)];by_cases c2:E=0
 ·have hb:Hid (G * 2147483648=((g * 2147483648:Nat):Int)):=dh (by have:=HG.out;omega)
  rw [if_pos (by have:=HE.out;omega)];subst c2;have HT:=dh tm;clear tm;obtain ⟨R,hR⟩:∃ R,R=(if m=0 then some (g * 2147483648) else .none:Option Nat):=⟨_,rfl⟩;rw [← hR];have HR:=dh hR;clear hR;go_enter Tryd.func88,Tryd.ntmps88
  go_wp2_with fail
  go_ret2
  rw [HR.out];exact NP.test HT.out hb.out
 have b2:(E==0)=false:=by simpa using c2
 rw [if_neg (by have:=HE.out;omega)];clear c1 c2 tm;by_cases c3:1151≤E
 ·rw [if_pos (by have:=HE.out;omega)]
  go_enter Tryd.func88,Tryd.ntmps88
  go_wp2_with fail
  go_ret2
  exact NP.no
 rw [if_neg (by have:=HE.out;omega)];by_cases c4:897≤E
 ·rw [if_pos (by have:=HE.out;omega)]
  have hb:Hid (bits .or .u64 (bits .or .u64 (G * 2147483648) ((E - 1023 + 127) * 8388608)) (M / 536870912)=((g * 2147483648 + (e - 896) * 8388608 + m / 536870912:Nat):Int)):=by
   have h1:=HG.out;have h2:=HE.out;have h3:=HM.out;refine dh ?_;have o1:bits .or .u64 (G * 2147483648) ((E - 1023 + 127) * 8388608)=((g * 2 ^ 31 + (e - 896) * 8388608:Nat):Int):=or_hi 31 (by omega) (by omega) (by omega) (by omega);rw [o1];have o2:g * 2 ^ 31 + (e - 896) * 8388608=(g * 2 ^ (31 - 23) + (e - 896)) * 2 ^ 23:=by omega
   rw [o2];have o3:=or_hi 23 (a:=g * 2 ^ (31 - 23) + (e - 896)) (b:=m / 536870912) (A:=(((g * 2 ^ (31 - 23) + (e - 896)) * 2 ^ 23:Nat):Int)) (B:=M / 536870912) rfl (by omega) (by omega) (by omega);rw [o3]
   try (congr 1;omega)
  have ht:Hid ((bits .and .u64 M 536870911==0)=decide (m % 536870912=0)):=by
   have h3:=HM.out;refine dh ?_;rw [and_mask 29 (by omega) h3 (by omega) 536870911 rfl,Bool.eq_iff_iff];simp;omega
  obtain ⟨R,hR⟩:∃ R,R=(if m % 536870912=0 then some (g * 2147483648 + (e - 896) * 8388608 + m / 536870912) else .none:Option Nat):=⟨_,rfl⟩;rw [← hR];have HR:=dh hR;clear hR;go_enter Tryd.func88,Tryd.ntmps88
  go_wp2_with fail
  go_ret2
  rw [HR.out];exact NP.test ht.out hb.out
 rw [if_neg (by have:=HE.out;omega)];by_cases c5:E < 874
 ·rw [if_pos (by have:=HE.out;omega)]
  go_enter Tryd.func88,Tryd.ntmps88
  go_wp2_with fail
  go_ret2
  exact NP.no
 ·rw [if_neg (by have:=HE.out;omega)]
  have hs:Hid ((30 - (E - 1023 + 127)).toNat=926 - e):=dh (by have:=HE.out;omega);have ho:Hid (bits .or .u64 M 4503599627370496=((m + 4503599627370496:Nat):Int)):=by
   have h3:=HM.out;refine dh ?_;rw [or_lo 52 (a:=1) (b:=m) (A:=4503599627370496) rfl h3 (by omega) (by omega)];congr 1
   omega
  have hsm:926 - e≤52:=by have:=HE.out;omega
  have hsm2:30≤926 - e:=by have:=HE.out;omega
  have hmm:m < 4503599627370496:=by have:=HM.out;omega
  have hgg:g≤1:=by have:=HG.out;omega
  have hpow:2 ^ (926 - e)≤2 ^ 52:=Nat.pow_le_pow_right (by omega) hsm;have hpow2:2 ^ 30≤2 ^ (926 - e):=Nat.pow_le_pow_right (by omega) hsm2;have hpos:0 < 2 ^ (926 - e):=Nat.two_pow_pos _;have HX:Hid (bits .or .u64 (G * 2147483648) (bits .or .u64 M 4503599627370496 / 2 ^ (30 - (E - 1023 + 127)).toNat)=((g * 2147483648 + (m + 4503599627370496) / 2 ^ (926 - e):Nat):Int)):=by
   refine dh ?_;rw [ho.out,hs.out];have hq:(m + 4503599627370496) / 2 ^ (926 - e) < 2147483648:=by
    rw [Nat.div_lt_iff_lt_mul hpos];have:2147483648 * 2 ^ 30≤2147483648 * 2 ^ (926 - e):=Nat.mul_le_mul_left _ hpow2;omega
   exact or_hi 31 (by have:=HG.out;omega) (shr_nat rfl (2 ^ (926 - e)) _ (by norm_cast)) hq (by omega)
  have HTT:Hid ((bits .and .u64 (bits .or .u64 M 4503599627370496) (IntKind.u64.wrap (IntKind.u64.wrap (2 ^ (30 - (E - 1023 + 127)).toNat) - 1))==0)=decide ((m + 4503599627370496) % 2 ^ (926 - e)=0)):=by
   refine dh ?_;rw [ho.out,hs.out];have p1:(2:Int) ^ (926 - e)=((2 ^ (926 - e):Nat):Int):=by norm_cast
   have p2:IntKind.u64.wrap (2 ^ (926 - e))=((2 ^ (926 - e):Nat):Int):=by rw [p1];exact wrap_u64 (by omega) (by omega)
   have p3:IntKind.u64.wrap (((2 ^ (926 - e):Nat):Int) - 1)=((2 ^ (926 - e) - 1:Nat):Int):=by rw [wrap_u64 (by omega) (by omega)];omega
   rw [p2,p3,and_mask (926 - e) (by omega) rfl (by omega) _ rfl,Bool.eq_iff_iff];simp only [beq_iff_eq,decide_eq_true_eq]
   norm_cast
  obtain ⟨R,hR⟩:∃ R,R=(if (m + 4503599627370496) % 2 ^ (926 - e)=0 then some (g * 2147483648 + (m + 4503599627370496) / 2 ^ (926 - e)) else .none:Option Nat):=⟨_,rfl⟩;rw [← hR];have HR:=dh hR;clear hR;go_enter Tryd.func88,Tryd.ntmps88
  go_wp2_with fail
  go_ret2
  rw [HR.out];exact NP.test HTT.out HX.out
set_option maxHeartbeats 4000000 in
theorem narH_any (n:Nat) (N:Int) (hN:N=n) (hn:n < 18446744073709551616) (w:World):Calls Tryd.prog 88 #[.int .u64 N,.int .i64 5,.int .i64 10] w (NP (Fl.narrowH n) w):=by
 obtain ⟨G,E,M,⟨g0,g1,e0,e1,m0,m1,hG,hE,hM,q1,q2,q3⟩⟩:=parts hN hn;clear hN hn;unfold Fl.narrowH
 dsimp only
 generalize n / 9223372036854775808=g at *;generalize n / 4503599627370496 % 2048=e at *;generalize n % 4503599627370496=m at *;clear n;have HG:=dh hG;have HE:=dh hE;have HM:=dh hM;clear hG hE hM;have tm:(M==0)=decide (m=0):=by have:=HM.out;rw [Bool.eq_iff_iff];simp;omega
 by_cases c1:E=2047
 ·have hb:Hid (bits .or .u64 (G * 32768) 31744=((g * 32768 + 31744:Nat):Int)):=dh (or_hi 15 (by have:=HG.out;omega) rfl (by omega) (by have:=HG.out;omega))
  rw [if_pos (by have:=HE.out;omega)];subst c1;have HT:=dh tm;clear tm;obtain ⟨R,hR⟩:∃ R,R=(if m=0 then some (g * 32768 + 31744) else .none:Option Nat):=⟨_,rfl⟩;rw [← hR];have HR:=dh hR;clear hR;go_enter Tryd.func88,Tryd.ntmps88
  go_wp2_with fail
  go_ret2
  rw [HR.out];exact NP.test HT.out hb.out
 have b1:(E==2047)=false:=by simpa using c1
 rw [if_neg (by have:=HE.out;omega)];by_cases c2:E=0
 ·have hb:Hid (G * 32768=((g * 32768:Nat):Int)):=dh (by have:=HG.out;omega)
  rw [if_pos (by have:=HE.out;omega)];subst c2;have HT:=dh tm;clear tm;obtain ⟨R,hR⟩:∃ R,R=(if m=0 then some (g * 32768) else .none:Option Nat):=⟨_,rfl⟩;rw [← hR];have HR:=dh hR;clear hR;go_enter Tryd.func88,Tryd.ntmps88
  go_wp2_with fail
  go_ret2
  rw [HR.out];exact NP.test HT.out hb.out
 have b2:(E==0)=false:=by simpa using c2
 rw [if_neg (by have:=HE.out;omega)];clear c1 c2 tm;by_cases c3:1039≤E
 ·rw [if_pos (by have:=HE.out;omega)]
  go_enter Tryd.func88,Tryd.ntmps88
  go_wp2_with fail
  go_ret2
  exact NP.no
 rw [if_neg (by have:=HE.out;omega)];by_cases c4:1009≤E
 ·rw [if_pos (by have:=HE.out;omega)]
  have hb:Hid (bits .or .u64 (bits .or .u64 (G * 32768) ((E - 1023 + 15) * 1024)) (M / 4398046511104)=((g * 32768 + (e - 1008) * 1024 + m / 4398046511104:Nat):Int)):=by
   have h1:=HG.out;have h2:=HE.out;have h3:=HM.out;refine dh ?_;have o1:bits .or .u64 (G * 32768) ((E - 1023 + 15) * 1024)=((g * 2 ^ 15 + (e - 1008) * 1024:Nat):Int):=or_hi 15 (by omega) (by omega) (by omega) (by omega);rw [o1];have o2:g * 2 ^ 15 + (e - 1008) * 1024=(g * 2 ^ (15 - 10) + (e - 1008)) * 2 ^ 10:=by omega
   rw [o2];have o3:=or_hi 10 (a:=g * 2 ^ (15 - 10) + (e - 1008)) (b:=m / 4398046511104) (A:=(((g * 2 ^ (15 - 10) + (e - 1008)) * 2 ^ 10:Nat):Int)) (B:=M / 4398046511104) rfl (by omega) (by omega) (by omega);rw [o3]
   try (congr 1;omega)
  have ht:Hid ((bits .and .u64 M 4398046511103==0)=decide (m % 4398046511104=0)):=by
   have h3:=HM.out;refine dh ?_;rw [and_mask 42 (by omega) h3 (by omega) 4398046511103 rfl,Bool.eq_iff_iff];simp;omega
  obtain ⟨R,hR⟩:∃ R,R=(if m % 4398046511104=0 then some (g * 32768 + (e - 1008) * 1024 + m / 4398046511104) else .none:Option Nat):=⟨_,rfl⟩;rw [← hR];have HR:=dh hR;clear hR;go_enter Tryd.func88,Tryd.ntmps88
  go_wp2_with fail
  go_ret2
  rw [HR.out];exact NP.test ht.out hb.out
 rw [if_neg (by have:=HE.out;omega)];by_cases c5:E < 999
 ·rw [if_pos (by have:=HE.out;omega)]
  go_enter Tryd.func88,Tryd.ntmps88
  go_wp2_with fail
  go_ret2
  exact NP.no
 ·rw [if_neg (by have:=HE.out;omega)]
  have hs:Hid ((43 - (E - 1023 + 15)).toNat=1051 - e):=dh (by have:=HE.out;omega);have ho:Hid (bits .or .u64 M 4503599627370496=((m + 4503599627370496:Nat):Int)):=by
   have h3:=HM.out;refine dh ?_;rw [or_lo 52 (a:=1) (b:=m) (A:=4503599627370496) rfl h3 (by omega) (by omega)];congr 1
   omega
  have hsm:1051 - e≤52:=by have:=HE.out;omega
  have hsm2:43≤1051 - e:=by have:=HE.out;omega
  have hmm:m < 4503599627370496:=by have:=HM.out;omega
  have hgg:g≤1:=by have:=HG.out;omega
  have hpow:2 ^ (1051 - e)≤2 ^ 52:=Nat.pow_le_pow_right (by omega) hsm;have hpow2:2 ^ 43≤2 ^ (1051 - e):=Nat.pow_le_pow_right (by omega) hsm2;have hpos:0 < 2 ^ (1051 - e):=Nat.two_pow_pos _;have HX:Hid (bits .or .u64 (G * 32768) (bits .or .u64 M 4503599627370496 / 2 ^ (43 - (E - 1023 + 15)).toNat)=((g * 32768 + (m + 4503599627370496) / 2 ^ (1051 - e):Nat):Int)):=by
   refine dh ?_;rw [ho.out,hs.out];have hq:(m + 4503599627370496) / 2 ^ (1051 - e) < 32768:=by
    rw [Nat.div_lt_iff_lt_mul hpos];have:32768 * 2 ^ 43≤32768 * 2 ^ (1051 - e):=Nat.mul_le_mul_left _ hpow2;omega
   exact or_hi 15 (by have:=HG.out;omega) (shr_nat rfl (2 ^ (1051 - e)) _ (by norm_cast)) hq (by omega)
  have HTT:Hid ((bits .and .u64 (bits .or .u64 M 4503599627370496) (IntKind.u64.wrap (IntKind.u64.wrap (2 ^ (43 - (E - 1023 + 15)).toNat) - 1))==0)=decide ((m + 4503599627370496) % 2 ^ (1051 - e)=0)):=by
   refine dh ?_;rw [ho.out,hs.out];have p1:(2:Int) ^ (1051 - e)=((2 ^ (1051 - e):Nat):Int):=by norm_cast
   have p2:IntKind.u64.wrap (2 ^ (1051 - e))=((2 ^ (1051 - e):Nat):Int):=by rw [p1];exact wrap_u64 (by omega) (by omega)
   have p3:IntKind.u64.wrap (((2 ^ (1051 - e):Nat):Int) - 1)=((2 ^ (1051 - e) - 1:Nat):Int):=by rw [wrap_u64 (by omega) (by omega)];omega
   rw [p2,p3,and_mask (1051 - e) (by omega) rfl (by omega) _ rfl,Bool.eq_iff_iff];simp only [beq_iff_eq,decide_eq_true_eq]
   norm_cast
  obtain ⟨R,hR⟩:∃ R,R=(if (m + 4503599627370496) % 2 ^ (1051 - e)=0 then some (g * 32768 + (m + 4503599627370496) / 2 ^ (1051 - e)) else .none:Option Nat):=⟨_,rfl⟩;rw [← hR];have HR:=dh hR;clear hR;go_enter Tryd.func88,Tryd.ntmps88
  go_wp2_with fail
  go_ret2
  rw [HR.out];exact NP.test HTT.out HX.out
theorem NP.some {s:Nat} {w:World} {e:Ending} {w':World} (h:NP (some s) w e w'):e=.returned (.tuple #[.int .u64 (s:Int),.bool true])∧w=w':=by
 obtain ⟨v,b,rfl,hb,hv,rfl⟩:=h;rw [hv s rfl,hb];exact ⟨rfl,rfl⟩
theorem NP.none {w:World} {e:Ending} {w':World} (h:NP .none w e w'):∃ v:Int,e=.returned (.tuple #[.int .u64 v,.bool false])∧w=w':=by
 obtain ⟨v,b,rfl,hb,hv,rfl⟩:=h;rw [hb];exact ⟨v,rfl,rfl⟩
theorem narH_some {n s:Nat} {N:Int} (hN:N=n) (hn:n < 18446744073709551616) (h:Fl.narrowH n=some s) (S:Int) (hS:S=s) (w:World):Calls Tryd.prog 88 #[.int .u64 N,.int .i64 5,.int .i64 10] w fun e w'=>e=.returned (.tuple #[.int .u64 S,.bool true])∧w=w':=by
 subst hS;exact (narH_any n N hN hn w).mono fun e w' h'=>(h ▸ h').some
theorem narS_some {n s:Nat} {N:Int} (hN:N=n) (hn:n < 18446744073709551616) (h:Fl.narrowS n=some s) (S:Int) (hS:S=s) (w:World):Calls Tryd.prog 88 #[.int .u64 N,.int .i64 8,.int .i64 23] w fun e w'=>e=.returned (.tuple #[.int .u64 S,.bool true])∧w=w':=by
 subst hS;exact (narS_any n N hN hn w).mono fun e w' h'=>(h ▸ h').some
theorem narH_none {n:Nat} {N:Int} (hN:N=n) (hn:n < 18446744073709551616) (h:Fl.narrowH n=.none) (w:World):Calls Tryd.prog 88 #[.int .u64 N,.int .i64 5,.int .i64 10] w fun e w'=>∃ v:Int,e=.returned (.tuple #[.int .u64 v,.bool false])∧w=w':=
 (narH_any n N hN hn w).mono fun e w' h'=>(h ▸ h').none
theorem narS_none {n:Nat} {N:Int} (hN:N=n) (hn:n < 18446744073709551616) (h:Fl.narrowS n=.none) (w:World):Calls Tryd.prog 88 #[.int .u64 N,.int .i64 8,.int .i64 23] w fun e w'=>∃ v:Int,e=.returned (.tuple #[.int .u64 v,.bool false])∧w=w':=
 (narS_any n N hN hn w).mono fun e w' h'=>(h ▸ h').none
theorem isnan_yes {n:Nat} {N:Int} (hN:N=n) (hn:n < 18446744073709551616) (h:Fl.isNaN n=true) (w:World):Calls Tryd.prog 57 #[.int .u64 N] w fun e w'=>e=.returned (.bool true)∧w=w':=
 (isnan_any n N hN hn w).mono fun e w' h'=>h ▸ h'
theorem isnan_no {n:Nat} {N:Int} (hN:N=n) (hn:n < 18446744073709551616) (h:Fl.isNaN n=false) (w:World):Calls Tryd.prog 57 #[.int .u64 N] w fun e w'=>e=.returned (.bool false)∧w=w':=
 (isnan_any n N hN hn w).mono fun e w' h'=>h ▸ h'
set_option maxHeartbeats 4000000 in
theorem rfloat_any (n:Nat) (N:Int) (hN:N=n) (hn:n < 18446744073709551616) (w:World):Calls Tryd.prog 62 #[.int .u64 N] w (FB (It.flt n) w):=by
 have h0:(0:Int)≤N:=by omega
 cases hnan:Fl.isNaN n with
 | true=>
   have C1:=fun W=>isnan_yes hN hn hnan W
   rw [It.flt_nan hnan];clear hN hn hnan;go_enter Tryd.func62,Tryd.ntmps62
   go_wp2_with (go_at_call 57;refine (C1 _).mono ?_;rintro e w' ⟨rfl,rfl⟩)
   go_ret
   exact FB.lits rfl rfl (by simp)
 | false=>
   have C1:=fun W=>isnan_no hN hn hnan W
   cases hH:Fl.narrowH n with
   | some h=>
     obtain ⟨e1,e2,_⟩:=Fl.narrowH_widen hn hH;obtain ⟨V,hV⟩:∃ V:Int,V=h:=⟨_,rfl⟩;have C2:=fun W=>narH_some hN hn hH V hV W
     have v0:0≤V:=by omega
     have v1:V < 65536:=by omega
     have HV:=dh hV;rw [It.flt_half hnan hH,be2];clear hN hn hnan hH e1 e2 hV;go_enter Tryd.func62,Tryd.ntmps62
     go_wp2_with (first | (go_at_call 57;refine (C1 _).mono ?_;rintro e w' ⟨rfl,rfl⟩) | (go_at_call 88;refine (C2 _).mono ?_;rintro e w' ⟨rfl,rfl⟩))
     go_ret
     refine FB.lits ?_ rfl (by simp);have hV:=HV.out;rw [bv_eq (byte_of hV),bv_eq (byte_div_lt hV 256 256 rfl (by omega))];rfl
   | none=>
     have C2:=fun W=>narH_none hN hn hH W
     cases hS:Fl.narrowS n with
     | some s=>
       obtain ⟨e1,e2,_⟩:=Fl.narrowS_widen hn hS;obtain ⟨V,hV⟩:∃ V:Int,V=s:=⟨_,rfl⟩;have C3:=fun W=>narS_some hN hn hS V hV W
       have v0:0≤V:=by omega
       have v1:V < 4294967296:=by omega
       have HV:=dh hV;rw [It.flt_single hnan hH hS,be4];clear hN hn hnan hH hS e1 e2 hV;go_enter Tryd.func62,Tryd.ntmps62
       go_wp2_with (first | (go_at_call 57;refine (C1 _).mono ?_;rintro e w' ⟨rfl,rfl⟩) | (go_at_call 88;((with_reducible refine (C2 _).mono ?_);rintro e w' ⟨v,rfl,rfl⟩)) | (go_at_call 88;refine (C3 _).mono ?_;rintro e w' ⟨rfl,rfl⟩))
       go_ret
       refine FB.lits ?_ rfl (by simp);have hV:=HV.out;rw [bv_eq (byte_of hV),bv_eq (byte_div hV 256 256 rfl),bv_eq (byte_div hV 65536 65536 rfl),bv_eq (byte_div_lt hV 16777216 16777216 rfl (by omega))];rfl
     | none=>
       have C3:=fun W=>narS_none hN hn hS W
       have HE:=dh hN;have HF:=dh (It.flt_double hnan hH hS);clear hN hn hnan hH hS;have P0:=al w (.cells #[.int .u8 251] 5);have O1:OwnB (w.alloc (.cells #[.int .u8 251] 5)) w.heap.size (.slice (some ⟨w.heap.size,0,none⟩) 1 1) [251]:=by
        refine own_lits [251] _ (by simp) ?_ _ (Nat.le_refl _);rw [aw];rfl
       have HP1:=dh P0;have HO1:=dh O1;clear P0 O1;go_enter Tryd.func62,Tryd.ntmps62
       go_wp2_with (first | (go_at_call 57;refine (C1 _).mono ?_;rintro e w' ⟨rfl,rfl⟩) | (go_at_call 88;((with_reducible refine (C2 _).mono ?_);rintro e w' ⟨v,rfl,rfl⟩)) | (go_at_call 88;refine (C3 _).mono ?_;rintro e w' ⟨v',rfl,rfl⟩))
       generalize w.alloc (.cells #[.int .u8 251] 5)=w1 at *;go_loopw [7,8] (fun v s W=>∃ k:Nat,k≤8∧s=.int .i64 (7 - (k:Int))∧OwnB W w.heap.size v (251 :: (It.be 8 n).take k)∧Below w.heap.size w W) (fun _ s _=>(intOf s + 1).toNat)
       case atStart=>exact ⟨0,by omega,rfl,HO1.out,HP1.out⟩
       case round=>
        obtain ⟨k,hk,rfl,hO,hB⟩:=hrel;by_cases hlt:k < 8
        ·obtain ⟨S,hS⟩:∃ S:Int,S=7 - (k:Int):=⟨_,rfl⟩
         have hS0:0≤S:=by omega
         have hS1:S≤7:=by omega
         have hbyte:N / 2 ^ (8 * S).toNat % 256=((UInt8.ofNat (n / 256 ^ (7 - k))).toNat:Int):=by
          rw [← byte_shift,HE.out];have:(8 * S).toNat=8 * (7 - k):=by omega
          rw [this]
         obtain ⟨v',W',hrun,hO',hB'⟩:=push_byte hO _ _ hbyte (by simp [List.length_take,It.be_length];omega) hB.size;have HT:=dh (be_take 8 n k hlt);have HO:=dh hO';have HB:=dh (hB.trans hB');rw [← hS];have HS:=dh hS;clear hS hO hB hO' hB' hbyte;go_wp2_with (at_builtin;refine wj rfl _ _ 23 rfl rfl rfl hrun ?_)
         go_roundw
         case rel=>exact ⟨k + 1,by omega,by rw [HS.out];go_num,by rw [HT.out];exact HO.out,HB.out⟩
         case measure=>have:=HS.out;simp [intOf];omega
        ·obtain rfl:k=8:=by omega
         have HO:=dh hO;have HB:=dh hB;clear hO hB;go_wp2_with fail
         go_ret
         have h1:=HO.out;rw [List.take_of_length_le (by rw [It.be_length];omega)] at h1;rw [HF.out];exact ⟨_,rfl,h1,HB.out⟩
theorem and_mask32 (k:Nat) (hk:k≤32) {n:Nat} {N:Int} (hN:N=n) (hn:n < 4294967296) (K:Int) (hK:K=((2 ^ k - 1:Nat):Int)):bits .and .u32 N K=((n % 2 ^ k:Nat):Int):=by
 subst hN hK;have h2:2 ^ k≤2 ^ 32:=Nat.pow_le_pow_right (by omega) hk;have h3:0 < 2 ^ k:=Nat.two_pow_pos k;rw [u32_and_nat _ _ hn (by omega),Nat.and_two_pow_sub_one_eq_mod]
theorem or_hi16 (k:Nat) {a b:Nat} {A B:Int} (hA:A=((a * 2 ^ k:Nat):Int)) (hB:B=(b:Int)) (hb:b < 2 ^ k) (h64:a * 2 ^ k + b < 65536):bits .or .u16 A B=((a * 2 ^ k + b:Nat):Int):=by
 subst hA hB;rw [u16_or_nat _ _ (by omega) (by omega),Nat.mul_comm a,Nat.two_pow_add_eq_or_of_lt hb]
theorem or_lo32 (k:Nat) {a b:Nat} {A B:Int} (hA:A=((a * 2 ^ k:Nat):Int)) (hB:B=(b:Int)) (hb:b < 2 ^ k) (h64:a * 2 ^ k + b < 4294967296):bits .or .u32 B A=((a * 2 ^ k + b:Nat):Int):=by
 subst hA hB;rw [u32_or_nat _ _ (by omega) (by omega),Nat.or_comm,Nat.mul_comm a,Nat.two_pow_add_eq_or_of_lt hb]
structure PartsS (n:Nat) (N G E M:Int):Prop where
 g0:0≤G
 g1:G≤1
 e0:0≤E
 e1:E≤255
 m0:0≤M
 m1:M < 8388608
 hG:G=((n / 2147483648:Nat):Int)
 hE:E=((n / 8388608 % 256:Nat):Int)
 hM:M=((n % 8388608:Nat):Int)
 q1:N / 2147483648=G
 q2:bits .and .u32 (N / 8388608) 255=E
 q3:bits .and .u32 N 8388607=M
theorem partsS {n:Nat} {N:Int} (hN:N=n) (hn:n < 4294967296):∃ G E M,PartsS n N G E M:=
 ⟨((n / 2147483648:Nat):Int),((n / 8388608 % 256:Nat):Int),((n % 8388608:Nat):Int),by omega,by omega,by omega,by omega,by omega,by omega,rfl,rfl,rfl,
   shr_nat hN 2147483648 _ rfl,and_mask32 8 (by omega) (shr_nat hN 8388608 _ rfl) (by omega) _ rfl,and_mask32 23 (by omega) hN hn _ rfl⟩
def NPH (r:Option Nat) (w:World) (e:Ending) (w':World):Prop:=∃ (v:Int) (b:Bool),e=.returned (.tuple #[.int .u16 v,.bool b])∧b=r.isSome∧(∀ s,r=some s→v=(s:Int))∧w=w'
theorem NPH.no {w:World} {v:Int}:NPH .none w (.returned (.tuple #[.int .u16 v,.bool false])) w:=⟨v,false,rfl,rfl,(fun s h=>by cases h),rfl⟩
theorem NPH.yes {w:World} {v:Int} {s:Nat} (h:v=s):NPH (some s) w (.returned (.tuple #[.int .u16 v,.bool true])) w:=⟨v,true,rfl,rfl,(fun s' h'=>by cases h';exact h),rfl⟩
theorem NPH.test {w:World} {v:Int} {s:Nat} {p:Prop} [Decidable p] {t:Bool} (ht:t=decide p) (h:v=s):NPH (if p then some s else .none) w (.returned (.tuple #[.int .u16 v,.bool t])) w:=by
 subst ht;by_cases hp:p
 ·rw [if_pos hp,decide_eq_true hp];exact .yes h
 ·rw [if_neg hp,decide_eq_false hp];exact .no
theorem NPH.some {s:Nat} {w:World} {e:Ending} {w':World} (h:NPH (some s) w e w'):e=.returned (.tuple #[.int .u16 (s:Int),.bool true])∧w=w':=by
 obtain ⟨v,b,rfl,hb,hv,rfl⟩:=h;rw [hv s rfl,hb];exact ⟨rfl,rfl⟩
theorem NPH.none {w:World} {e:Ending} {w':World} (h:NPH .none w e w'):∃ v:Int,e=.returned (.tuple #[.int .u16 v,.bool false])∧w=w':=by
 obtain ⟨v,b,rfl,hb,hv,rfl⟩:=h;rw [hb];exact ⟨v,rfl,rfl⟩
set_option maxHeartbeats 4000000 in
theorem half_any (n:Nat) (N:Int) (hN:N=n) (hn:n < 4294967296) (w:World):Calls Tryd.prog 93 #[.int .u32 N] w (NPH (Fl.halfP n) w):=by
 obtain ⟨G,E,M,⟨g0,g1,e0,e1,m0,m1,hG,hE,hM,q1,q2,q3⟩⟩:=partsS hN hn;clear hN hn;unfold Fl.halfP
 dsimp only
 generalize n / 2147483648=g at *;generalize n / 8388608 % 256=e at *;generalize n % 8388608=m at *;clear n;have HG:=dh hG;have HE:=dh hE;have HM:=dh hM;clear hG hE hM;by_cases c1:E=255
 ·have hb:Hid (bits .or .u16 (G * 32768) 31744=((g * 32768 + 31744:Nat):Int)):=dh (or_hi16 15 (by have:=HG.out;omega) rfl (by omega) (by have:=HG.out;omega))
  rw [if_pos (by have:=HE.out;omega)];subst c1;go_enter Tryd.func93,Tryd.ntmps93
  go_wp2_with fail
  go_ret2
  exact NPH.yes hb.out
 have b1:(E==255)=false:=by simpa using c1
 rw [if_neg (by have:=HE.out;omega)];by_cases c2:E=0
 ·have hb:Hid (G * 32768=((g * 32768:Nat):Int)):=dh (by have:=HG.out;omega)
  have tm:Hid ((M==0)=decide (m=0)):=by refine dh ?_;have:=HM.out;rw [Bool.eq_iff_iff];simp;omega
  rw [if_pos (by have:=HE.out;omega)];obtain ⟨R,hR⟩:∃ R,R=(if m=0 then some (g * 32768) else .none:Option Nat):=⟨_,rfl⟩;rw [← hR];have HR:=dh hR;clear hR;subst c2;go_enter Tryd.func93,Tryd.ntmps93
  go_wp2_with fail
  go_ret2
  rw [HR.out];exact NPH.test tm.out hb.out
 have b2:(E==0)=false:=by simpa using c2
 rw [if_neg (by have:=HE.out;omega)];clear c1 c2;by_cases c3:143≤E
 ·rw [if_neg (by have:=HE.out;omega),if_neg (by have:=HE.out;omega)]
  have d1:decide (E≤142)=false:=by simp;omega
  have d2:decide (E < 113)=false:=by simp;omega
  go_enter Tryd.func93,Tryd.ntmps93
  go_wp2_with fail
  go_ret2
  exact NPH.no
 by_cases c4:113≤E
 ·rw [if_pos (by have:=HE.out;omega)]
  have hb:Hid (bits .or .u16 (bits .or .u16 (G * 32768) ((E - 112) * 1024)) (M / 8192)=((g * 32768 + (e - 112) * 1024 + m / 8192:Nat):Int)):=by
   have h1:=HG.out;have h2:=HE.out;have h3:=HM.out;refine dh ?_;have o1:bits .or .u16 (G * 32768) ((E - 112) * 1024)=((g * 2 ^ 15 + (e - 112) * 1024:Nat):Int):=or_hi16 15 (by omega) (by omega) (by omega) (by omega);rw [o1];have o2:g * 2 ^ 15 + (e - 112) * 1024=(g * 2 ^ 5 + (e - 112)) * 2 ^ 10:=by omega
   rw [o2];have o3:=or_hi16 10 (a:=g * 2 ^ 5 + (e - 112)) (b:=m / 8192) (A:=(((g * 2 ^ 5 + (e - 112)) * 2 ^ 10:Nat):Int)) (B:=M / 8192) rfl (by omega) (by omega) (by omega);rw [o3]
   try (congr 1;omega)
  have ht:Hid ((bits .and .u32 M 8191==0)=decide (m % 8192=0)):=by
   have h3:=HM.out;refine dh ?_;rw [and_mask32 13 (by omega) h3 (by omega) 8191 rfl,Bool.eq_iff_iff];simp;omega
  obtain ⟨R,hR⟩:∃ R,R=(if m % 8192=0 then some (g * 32768 + (e - 112) * 1024 + m / 8192) else .none:Option Nat):=⟨_,rfl⟩;rw [← hR];have HR:=dh hR;clear hR;go_enter Tryd.func93,Tryd.ntmps93
  go_wp2_with fail
  go_ret2
  rw [HR.out];exact NPH.test ht.out hb.out
 rw [if_neg (by have:=HE.out;omega)];by_cases c5:E < 103
 ·rw [if_neg (by have:=HE.out;omega)]
  go_enter Tryd.func93,Tryd.ntmps93
  go_wp2_with fail
  go_ret2
  exact NPH.no
 ·rw [if_pos (by have:=HE.out;omega)]
  have hs:Hid ((126 - E).toNat=126 - e):=dh (by have:=HE.out;omega);have ho:Hid (bits .or .u32 M 8388608=((m + 8388608:Nat):Int)):=by
   have h3:=HM.out;refine dh ?_;rw [or_lo32 23 (a:=1) (b:=m) (A:=8388608) rfl h3 (by omega) (by omega)];congr 1
   omega
  have hsm:126 - e≤23:=by have:=HE.out;omega
  have hsm2:14≤126 - e:=by have:=HE.out;omega
  have hmm:m < 8388608:=by have:=HM.out;omega
  have hgg:g≤1:=by have:=HG.out;omega
  have hpow:2 ^ (126 - e)≤2 ^ 23:=Nat.pow_le_pow_right (by omega) hsm;have hpow2:2 ^ 14≤2 ^ (126 - e):=Nat.pow_le_pow_right (by omega) hsm2;have hpos:0 < 2 ^ (126 - e):=Nat.two_pow_pos _;have HX:Hid (bits .or .u16 (G * 32768) (IntKind.u16.wrap (bits .or .u32 M 8388608 / 2 ^ (126 - E).toNat))=((g * 32768 + (m + 8388608) / 2 ^ (126 - e):Nat):Int)):=by
   refine dh ?_;rw [ho.out,hs.out];have hq:(m + 8388608) / 2 ^ (126 - e) < 32768:=by
    rw [Nat.div_lt_iff_lt_mul hpos];have:32768 * 2 ^ 14≤32768 * 2 ^ (126 - e):=Nat.mul_le_mul_left _ hpow2;omega
   have hw:IntKind.u16.wrap (((m + 8388608:Nat):Int) / 2 ^ (126 - e))=(((m + 8388608) / 2 ^ (126 - e):Nat):Int):=by
    rw [shr_nat (n:=m + 8388608) rfl (2 ^ (126 - e)) _ (by norm_cast)];generalize (m + 8388608) / 2 ^ (126 - e)=q at *
    show (q:Int) % 65536=q
    omega
   rw [hw];exact or_hi16 15 (by have:=HG.out;omega) rfl hq (by omega)
  have HTT:Hid ((bits .and .u32 (bits .or .u32 M 8388608) ((2 ^ (126 - E).toNat - 1) % 4294967296)==0)=decide ((m + 8388608) % 2 ^ (126 - e)=0)):=by
   refine dh ?_;rw [ho.out,hs.out];have p1:(2:Int) ^ (126 - e)=((2 ^ (126 - e):Nat):Int):=by norm_cast
   have p3:((2:Int) ^ (126 - e) - 1) % 4294967296=((2 ^ (126 - e) - 1:Nat):Int):=by rw [p1];omega
   rw [p3,and_mask32 (126 - e) (by omega) rfl (by omega) _ rfl,Bool.eq_iff_iff];simp only [beq_iff_eq,decide_eq_true_eq]
   norm_cast
  obtain ⟨R,hR⟩:∃ R,R=(if (m + 8388608) % 2 ^ (126 - e)=0 then some (g * 32768 + (m + 8388608) / 2 ^ (126 - e)) else .none:Option Nat):=⟨_,rfl⟩;rw [← hR];have HR:=dh hR;clear hR;go_enter Tryd.func93,Tryd.ntmps93
  go_wp2_with fail
  go_ret2
  rw [HR.out];exact NPH.test HTT.out HX.out
end Go.Proofs.YtelefkkkccilaaaDoor
