/- Joined texts. -/
import Derived.WalkKit
import Derived.Laws.BytesArg
import Derived.Laws.MakeOwn
import Derived.Scope
set_option linter.unusedVariables false
set_option linter.unusedSimpArgs false
namespace Go.Proofs.YtelefkkkccilaaaDoor
namespace Am
structure SlP where
 p:(Nat→Prop)→World→Option Addr→Nat→Nat→Prop
 mono:∀ {Z Z':Nat→Prop} {w w':World} {a:Option Addr} {n c:Nat},(∀ b,Z b→Z' b)→(∀ b,Z b→w'.heap[b]?=w.heap[b]?)→p Z w a n c→p Z' w' a n c
inductive SV where
 | any
 | v (x:Value)
 | sl (n k:Nat) (cs:List SV)
 | agg (cs:List SV)
 | tup (cs:List SV)
 | ptr (s ver off:Nat)
 | own (s ver n k:Nat)
 | rp (cs:List SV)
 | s (q:SlP)
structure Row where
 ver:Nat
 T:Nat
 k:Nat
 cs:List SV
structure Cx where
 Z:Nat→Prop
 A:Nat→Prop
 mu:Nat→Nat
 ka:Nat→Nat
abbrev Cx.pure (g:Cx):Cx:=⟨g.Z,fun _=>False,g.mu,g.ka⟩
mutual
def holds (g:Cx) (w:World):SV→Value→Prop
 | .any,_=>True
 | .v x,v=>v=x
 | .sl n k cs,v=>∃ (a:Option Addr) (c:Nat),v=.slice a n c∧(n≤c∧c≤9223372036854775807)∧cs.length=n * k∧(cs.length=0∨∃ b o,a=some ⟨b,o,none⟩∧g.Z b∧atL g.pure w cs b o)
 | .agg cs,v=>∃ vs:List Value,v=.agg vs.toArray∧agL g w cs vs
 | .tup cs,v=>∃ vs:List Value,v=.tuple vs.toArray∧agL g w cs vs
 | .ptr _ ver off,v=>g.A ver∧v=.pointer (some ⟨g.mu ver,off,none⟩)
 | .own _ ver n _,v=>g.A ver∧(n≤g.ka ver∧g.ka ver≤9223372036854775807)∧(v=.slice (some ⟨g.mu ver,0,none⟩) n (g.ka ver)∨(g.ka ver=0∧v=.slice none 0 0))
 | .rp cs,v=>∃ b o,v=.pointer (some ⟨b,o,none⟩)∧g.Z b∧atL g.pure w cs b o
 | .s q,v=>∃ a n c,v=.slice a n c∧q.p g.Z w a n c
def atL (g:Cx) (w:World):List SV→Nat→Nat→Prop
 | [],_,_=>True
 | c :: cs,b,o=>(∃ x,w.cell? ⟨b,o,none⟩=some x∧holds g w c x)∧atL g w cs b (o + 1)
def agL (g:Cx) (w:World):List SV→List Value→Prop
 | [],[]=>True
 | c :: cs,v :: vs=>holds g w c v∧agL g w cs vs
 | _,_=>False
end
structure Cx.le (g g':Cx):Prop where
 z:∀ b,g.Z b→g'.Z b
 a:∀ n,g.A n→g'.A n∧g'.mu n=g.mu n∧g'.ka n=g.ka n
theorem Cx.le.refl (g:Cx):g.le g:=⟨fun _ h=>h,fun _ h=>⟨h,rfl,rfl⟩⟩
theorem Cx.le.trans {a b c:Cx} (h:a.le b) (k:b.le c):a.le c:=
 ⟨fun x hx=>k.z x (h.z x hx),fun n hn=>have h1:=h.a n hn;have h2:=k.a n h1.1;⟨h2.1,h2.2.1.trans h1.2.1,h2.2.2.trans h1.2.2⟩⟩
theorem Cx.le.pure {g g':Cx} (h:g.le g'):g.pure.le g'.pure:=⟨h.z,fun _ h=>h.elim⟩
theorem Cx.pure_le (g:Cx):g.pure.le g:=⟨fun _ h=>h,fun _ h=>h.elim⟩
theorem cell_eq {w w':World} {b:Nat} (h:w'.heap[b]?=w.heap[b]?) (o:Nat):w'.cell? ⟨b,o,none⟩=w.cell? ⟨b,o,none⟩:=by
 simp [World.cell?,h]
mutual
theorem holds.mono {g g':Cx} {w w':World} (hg:g.le g') (hw:∀ b,g.Z b→w'.heap[b]?=w.heap[b]?):∀ (s:SV) (v:Value),holds g w s v→holds g' w' s v
 | .any,_,_=>trivial
 | .v _,_,h=>h
 | .sl n k cs,v,h=>by
   obtain ⟨a,c,e,hn,hl,h⟩:=h;refine ⟨a,c,e,hn,hl,h.imp id fun ⟨b,o,e,hz,h⟩=>⟨b,o,e,hg.z b hz,atL.mono hg.pure hw cs b o hz h⟩⟩
 | .agg cs,v,h=>by
   obtain ⟨vs,e,h⟩:=h;exact ⟨vs,e,agL.mono hg hw cs vs h⟩
 | .tup cs,v,h=>by
   obtain ⟨vs,e,h⟩:=h;exact ⟨vs,e,agL.mono hg hw cs vs h⟩
 | .ptr s ver off,v,h=>by
   obtain ⟨ha,e⟩:=h;have:=hg.a ver ha;exact ⟨this.1,by rw [this.2.1];exact e⟩
 | .own s ver n k,v,h=>by
   obtain ⟨ha,hn,e⟩:=h;have:=hg.a ver ha;exact ⟨this.1,by rw [this.2.2];exact hn,by rw [this.2.1,this.2.2];exact e⟩
 | .rp cs,v,h=>by
   obtain ⟨b,o,e,hz,h⟩:=h;exact ⟨b,o,e,hg.z b hz,atL.mono hg.pure hw cs b o hz h⟩
 | .s q,v,h=>by
   obtain ⟨a,n,c,e,h⟩:=h;exact ⟨a,n,c,e,q.mono hg.z hw h⟩
theorem atL.mono {g g':Cx} {w w':World} (hg:g.le g') (hw:∀ b,g.Z b→w'.heap[b]?=w.heap[b]?):∀ (cs:List SV) (b o:Nat),g.Z b→atL g w cs b o→atL g' w' cs b o
 | [],_,_,_,_=>trivial
 | c :: cs,b,o,hz,h=>by
   obtain ⟨⟨x,hx,hh⟩,h⟩:=h;exact ⟨⟨x,(cell_eq (hw b hz) o).trans hx,holds.mono hg hw c x hh⟩,atL.mono hg hw cs b (o + 1) hz h⟩
theorem agL.mono {g g':Cx} {w w':World} (hg:g.le g') (hw:∀ b,g.Z b→w'.heap[b]?=w.heap[b]?):∀ (cs:List SV) (vs:List Value),agL g w cs vs→agL g' w' cs vs
 | [],[],_=>trivial
 | c :: cs,v :: vs,h=>⟨holds.mono hg hw c v h.1,agL.mono hg hw cs vs h.2⟩
 | [],_ :: _,h=>h.elim
 | _ :: _,[],h=>h.elim
end
section
variable {g:Cx} {w:World}
theorem holds.up {s:SV} {v:Value} (h:holds g.pure w s v):holds g w s v:=holds.mono g.pure_le (fun _ _=>rfl) s v h
theorem agL.up {cs:List SV} {vs:List Value} (h:agL g.pure w cs vs):agL g w cs vs:=agL.mono g.pure_le (fun _ _=>rfl) cs vs h
theorem agL.len:∀ {cs:List SV} {vs:List Value},agL g w cs vs→cs.length=vs.length
 | [],[],_=>rfl
 | _ :: _,_ :: _,h=>by simpa using agL.len h.2
theorem agL.get:∀ {cs:List SV} {vs:List Value},agL g w cs vs→∀ (i:Nat) (c:SV),cs[i]?=some c→∃ v,vs[i]?=some v∧holds g w c v
 | [],[],_,i,c,h=>by simp at h
 | c :: cs,v :: vs,h,0,d,e=>by simp at e;subst e;exact ⟨v,rfl,h.1⟩
 | c :: cs,v :: vs,h,i + 1,d,e=>by simpa using agL.get h.2 i d (by simpa using e)
theorem agL.drop:∀ {cs:List SV} {vs:List Value},agL g w cs vs→∀ n,agL g w (cs.drop n) (vs.drop n)
 | [],[],_,n=>by simp [agL]
 | c :: cs,v :: vs,h,0=>h
 | c :: cs,v :: vs,h,n + 1=>by simpa using agL.drop h.2 n
theorem agL.take:∀ {cs:List SV} {vs:List Value},agL g w cs vs→∀ n,agL g w (cs.take n) (vs.take n)
 | [],[],_,n=>by simp [agL]
 | c :: cs,v :: vs,h,0=>by simp [agL]
 | c :: cs,v :: vs,h,n + 1=>by simpa [agL] using ⟨h.1,agL.take h.2 n⟩
theorem agL.append:∀ {cs ds:List SV} {vs us:List Value},agL g w cs vs→agL g w ds us→agL g w (cs ++ ds) (vs ++ us)
 | [],_,[],_,_,k=>k
 | c :: cs,_,v :: vs,_,h,k=>⟨h.1,agL.append h.2 k⟩
theorem agL.ofv:∀ (l:List Value),agL g w (l.map .v) l
 | []=>trivial
 | _ :: l=>⟨rfl,agL.ofv l⟩
theorem atL.drop:∀ {cs:List SV} {b o:Nat},atL g w cs b o→∀ n,n≤cs.length→atL g w (cs.drop n) b (o + n)
 | _,_,_,h,0,_=>h
 | c :: cs,b,o,h,n + 1,hn=>by
   have:=atL.drop h.2 n (by simpa using hn);rw [show o + (n + 1)=o + 1 + n by omega];simpa using this
 | [],_,_,_,n + 1,hn=>by simp at hn
theorem atL.take:∀ {cs:List SV} {b o:Nat},atL g w cs b o→∀ n,atL g w (cs.take n) b o
 | [],_,_,_,n=>by simp [atL]
 | c :: cs,b,o,h,0=>by simp [atL]
 | c :: cs,b,o,h,n + 1=>by simpa [atL] using ⟨h.1,atL.take h.2 n⟩
theorem atL.vals:∀ {cs:List SV} {b o:Nat},atL g w cs b o→∃ vs:List Value,agL g w cs vs∧∀ i,i < cs.length→∃ x,vs[i]?=some x∧w.cell? ⟨b,o + i,none⟩=some x
 | [],_,_,_=>⟨[],trivial,fun i h=>by simp at h⟩
 | c :: cs,b,o,h=>by
   obtain ⟨⟨x,hx,hh⟩,h⟩:=h;obtain ⟨vs,h1,h2⟩:=atL.vals h;refine ⟨x :: vs,⟨hh,h1⟩,fun i hi=>?_⟩;cases i with
   | zero=>exact ⟨x,rfl,hx⟩
   | succ i=>
     obtain ⟨y,e1,e2⟩:=h2 i (by simpa using hi);exact ⟨y,by simpa using e1,by rw [show o + (i + 1)=o + 1 + i by omega];exact e2⟩
theorem atL.of:∀ {cs:List SV} {vs:List Value} {b o:Nat},agL g w cs vs→(∀ i x,vs[i]?=some x→w.cell? ⟨b,o + i,none⟩=some x)→atL g w cs b o
 | [],[],_,_,_,_=>trivial
 | c :: cs,v :: vs,b,o,h,k=>⟨⟨v,k 0 v rfl,h.1⟩,atL.of h.2 fun i x e=>by
  have:=k (i + 1) x (by simpa using e);rw [show o + 1 + i=o + (i + 1) by omega];exact this⟩
end
def rowIn (g:Cx) (w:World) (r:Row):Prop:=
 g.A r.ver∧((g.ka r.ver=0∧r.cs=[])∨∃ arr:Array Value,w.heap[g.mu r.ver]?=some (.cells arr r.T (0,0))∧arr.size=g.ka r.ver * r.k∧r.cs.length≤arr.size∧agL g w r.cs (arr.toList.take r.cs.length))
theorem rowIn.mono {g g':Cx} {w w':World} (hg:g.le g') (hw:∀ b,g.Z b→w'.heap[b]?=w.heap[b]?) {r:Row} (h:rowIn g w r) (hb:g.ka r.ver≠0→w'.heap[g.mu r.ver]?=w.heap[g.mu r.ver]?):rowIn g' w' r:=by
 obtain ⟨ha,h⟩:=h;have e:=hg.a _ ha;refine ⟨e.1,?_⟩;by_cases hk:g.ka r.ver=0
 ·left
  rw [e.2.2];refine ⟨hk,?_⟩;rcases h with h | ⟨arr,h1,h2,h3,h4⟩
  ·exact h.2
  ·rw [hk,Nat.zero_mul] at h2
   exact List.length_eq_zero_iff.1 (by omega)
 ·rcases h with h | ⟨arr,h1,h2,h3,h4⟩
  ·exact absurd h.1 hk
  ·exact .inr ⟨arr,by rw [e.2.1,hb hk];exact h1,by rw [e.2.2];exact h2,h3,h4.mono hg hw⟩
theorem rowIn.arr {g:Cx} {w:World} {r:Row} (h:rowIn g w r) (h0:0 < r.cs.length):g.ka r.ver≠0∧∃ arr:Array Value,w.heap[g.mu r.ver]?=some (.cells arr r.T (0,0))∧arr.size=g.ka r.ver * r.k∧r.cs.length≤arr.size∧agL g w r.cs (arr.toList.take r.cs.length):=by
 obtain ⟨ha,h | ⟨arr,h1,h2,h3,h4⟩⟩:=h
 ·rw [h.2] at h0;simp at h0
 ·refine ⟨fun e=>?_,arr,h1,h2,h3,h4⟩
  rw [e,Nat.zero_mul] at h2;omega
structure Rs where
 p:Prop
 r:SV
 rd:List Nat
 wr:Option (Nat × Row)
 nx:Nat
abbrev pu (p:Prop) (r:SV) (nx:Nat):Rs:=⟨p,r,[],none,nx⟩
abbrev bad (nx:Nat):Rs:=⟨False,.any,[],none,nx⟩
def szT (P:Program) (T:TypeId):Nat:=match (sizeOf T).run P default with | .ok n _=>n | _=>0
def agT (P:Program) (T:TypeId):Option Bool:=match (isAgg T).run P default with | .ok n _=>some n | _=>none
def zcT (P:Program) (T:TypeId):Option Value:=match (zeroValue T).run P default with | .ok n _=>some n | _=>none
def cells:SV→List SV
 | .agg cs=>cs
 | x=>[x]
def partS (a:Option Bool) (k:Nat) (cs:List SV):SV:=match a with | some true=>.agg (cs.take k) | some false=>cs.headD .any | none=>.any
def ovw {α:Type} (cs:List α) (o:Nat) (new:List α):List α:=cs.take o ++ new ++ cs.drop (o + new.length)
def sub (cs:List SV) (i k:Nat):List SV:=(cs.drop (i * k)).take k
def pkV:SV→SV→SV→Nat→Rs
 | .v (.bool b),x,y,nx=>pu True (bif b then x else y) nx
 | _,_,_,nx=>bad nx
def ncV:SV→Nat→Rs
 | .ptr s v o,nx=>pu True (.ptr s v o) nx
 | .rp cs,nx=>pu True (.rp cs) nx
 | _,nx=>bad nx
def faF (P:Program) (x:SV) (nx:Nat):Option Field→Rs
 | some f=>match x with
   | .ptr s v o=>pu (szT P f.type≠0) (.ptr s v (o + f.offset)) nx
   | .rp cs=>pu (szT P f.type≠0∧f.offset≤cs.length) (.rp (cs.drop f.offset)) nx
   | _=>bad nx
 | none=>bad nx
def faU (P:Program) (f:Nat) (x:SV) (nx:Nat):Option TypeDesc→Rs
 | some (.struct fs)=>faF P x nx (fs[f]?)
 | _=>bad nx
def flF (P:Program) (cs:List SV) (nx:Nat):Option Field→Rs
 | some f=>pu (f.offset + szT P f.type≤cs.length∧0 < szT P f.type∧agT P f.type≠none) (partS (agT P f.type) (szT P f.type) (cs.drop f.offset)) nx
 | none=>bad nx
def flU (P:Program) (f:Nat) (nx:Nat):SV→Option TypeDesc→Rs
 | .agg cs,some (.struct fs)=>flF P cs nx (fs[f]?)
 | _,_=>bad nx
def exV (i nx:Nat):SV→Rs
 | .tup cs=>pu (i < cs.length) (cs.getD i .any) nx
 | _=>bad nx
def biI (op:BinOp) (k k':IntKind) (a b:Int) (nx:Nat):Rs:=
 match op with
 | .add=>pu (k=k') (.v (.int k (k.wrap (a + b)))) nx
 | .sub=>pu (k=k') (.v (.int k (k.wrap (a - b)))) nx
 | .mul=>pu (k=k') (.v (.int k (k.wrap (a * b)))) nx
 | .quo=>pu (k=k'∧b≠0) (.v (.int k (k.wrap (a.tdiv b)))) nx
 | .rem=>pu (k=k'∧b≠0) (.v (.int k (a.tmod b))) nx
 | .and=>pu (k=k') (.v (.int k (k.wrap (BitVec.ofInt k.bits a &&& BitVec.ofInt k.bits b).toNat))) nx
 | .or=>pu (k=k') (.v (.int k (k.wrap (BitVec.ofInt k.bits a ||| BitVec.ofInt k.bits b).toNat))) nx
 | .xor=>pu (k=k') (.v (.int k (k.wrap (BitVec.ofInt k.bits a ^^^ BitVec.ofInt k.bits b).toNat))) nx
 | .shl=>pu (0≤b) (.v (.int k (k.wrap (a * 2 ^ min b.toNat k.bits)))) nx
 | .shr=>pu (0≤b) (.v (.int k (a.fdiv (2 ^ min b.toNat k.bits)))) nx
 | .eql=>pu (k=k') (.v (.bool (decide (a=b)))) nx
 | .neq=>pu (k=k') (.v (.bool (!decide (a=b)))) nx
 | .lss=>pu (k=k') (.v (.bool (decide (a < b)))) nx
 | .leq=>pu (k=k') (.v (.bool (decide (a≤b)))) nx
 | .gtr=>pu (k=k') (.v (.bool (decide (b < a)))) nx
 | .geq=>pu (k=k') (.v (.bool (decide (b≤a)))) nx
 | _=>bad nx
def biV (op:BinOp) (nx:Nat):SV→SV→Rs
 | .v (.int k a),.v (.int k' b)=>biI op k k' a b nx
 | .v (.float k a),.v (.float k' b)=>match op with
   | .eql=>pu (k=k') (.v (.bool (k.format.order a b==some .eq))) nx
   | .neq=>pu (k=k') (.v (.bool (k.format.order a b !=some .eq))) nx
   | _=>bad nx
 | .v (.string a),.v (.string b)=>match op with
   | .eql=>pu True (.v (.bool (a.toList==b.toList))) nx
   | .neq=>pu True (.v (.bool (!(a.toList==b.toList)))) nx
   | .add=>pu (a.size + b.size≤9223372036854775807) (.v (.string (a ++ b))) nx
   | _=>bad nx
 | _,_=>bad nx
def biX (op:BinOp) (nx:Nat):Option TypeDesc→SV→SV→Rs
 | some .bool,.v (.bool a),.v (.bool b)=>match op with
   | .eql=>pu True (.v (.bool (a==b))) nx
   | .neq=>pu True (.v (.bool (!(a==b)))) nx
   | _=>bad nx
 | _,x,y=>biV op nx x y
def unV (op:UnOp) (nx:Nat):SV→Rs
 | .v (.bool b)=>match op with
   | .not=>pu True (.v (.bool (!b))) nx
   | _=>bad nx
 | .v (.int k a)=>match op with
   | .neg=>pu True (.v (.int k (k.wrap (0 - a)))) nx
   | _=>bad nx
 | _=>bad nx
def cvV (nx:Nat):SV→Option TypeDesc→Option TypeDesc→Rs
 | .v (.int _ n),some _,some (.int k)=>pu True (.v (.int k (k.wrap n))) nx
 | _,_,_=>bad nx
def bnd:Option SV→Int→Option Int
 | none,d=>some d
 | some (.v (.int _ n)),_=>some n
 | _,_=>none
def slB (n k:Nat) (cs:List SV) (nx:Nat):Option Int→Option Int→Rs
 | some l,some h=>pu (0≤l∧l≤h∧h≤n) (.sl (h - l).toNat k ((cs.drop (l.toNat * k)).take ((h - l).toNat * k))) nx
 | _,_=>bad nx
def slV (P:Program) (nx:Nat) (lo hi:Option SV):SV→Option TypeDesc→Rs
 | .sl n k cs,some (.slice e)=>{ slB n k cs nx (bnd lo 0) (bnd hi n) with p:=(szT P e=k∧k≠0)∧(slB n k cs nx (bnd lo 0) (bnd hi n)).p }
 | _,_=>bad nx
def iaV (P:Program) (nx:Nat):SV→SV→Option TypeDesc→Rs
 | .sl n k cs,.v (.int _ i),some (.slice e)=>pu ((szT P e=k∧k≠0)∧0≤i∧i < n) (.rp (sub cs i.toNat k)) nx
 | .own s v n k,.v (.int _ i),some (.slice e)=>pu ((szT P e=k∧k≠0)∧0≤i∧i < n) (.ptr s v (i.toNat * k)) nx
 | _,_,_=>bad nx
def ixV (nx:Nat):SV→SV→Option TypeDesc→Rs
 | .v (.string s),.v (.int _ i),some .string=>pu (0≤i∧i < s.size) (.v (.int .u8 (s.get! i.toNat).toNat)) nx
 | _,_,_=>bad nx
def lnV (nx:Nat):SV→Option TypeDesc→Rs
 | .sl n _ _,some (.slice _)=>pu True (.v (.int .i64 n)) nx
 | .own _ _ n _,some (.slice _)=>pu True (.v (.int .i64 n)) nx
 | .v (.slice _ n _),some (.slice _)=>pu True (.v (.int .i64 n)) nx
 | .v (.string s),some .string=>pu True (.v (.int .i64 s.size)) nx
 | _,_=>bad nx
def ldR (a:Option Bool) (k ver off:Nat) (s nx:Nat):Option Row→Rs
 | some r=>⟨r.ver=ver∧off + k≤r.cs.length∧0 < k∧a≠none,partS a k (r.cs.drop off),[s],none,nx⟩
 | none=>bad nx
def ldV (a:Option Bool) (k:Nat) (H:Nat→Option Row) (nx:Nat):SV→Rs
 | .ptr s v o=>ldR a k v o s nx (H s)
 | .rp cs=>pu (k≤cs.length∧0 < k∧a≠none) (partS a k cs) nx
 | _=>bad nx
section
variable {P:Program} {g:Cx} {w:World} {ρ:Operand→Value} {o:Oper}
def Quiet (P:Program) (o:Oper) (ρ:Operand→Value) (g:Cx) (w:World) (r:SV):Prop:=
 ∃ v,(execOp ρ o).run P w=.ok (.value v) w∧holds g w r v
theorem run_sizeOf {T n:Nat} (h:szT P T=n) (h0:n≠0) (w:World):(sizeOf T).run P w=.ok n w:=by
 unfold szT sizeOf typeInfo at *;simp only [Sem.run_bind,run_program,Result.andThen_ok] at *;cases hi:P.info? T with
 | none=>simp [hi,stuck] at h;omega
 | some i=>simp [hi] at h ⊢;exact h
theorem run_und {T:Nat} (w:World):(underlying T).run P w=match P.underlying T with | some d=>.ok d w | none=>.halt (.stuck "no such type") w:=by
 unfold underlying;simp only [Sem.run_bind,run_program,Result.andThen_ok];cases P.underlying T <;> rfl
theorem run_isAgg {T:Nat} {b:Bool} (hT:agT P T=some b) (w:World):(isAgg T).run P w=.ok b w:=by
 unfold agT isAgg at *;simp only [Sem.run_bind,run_und] at *;cases h:P.underlying T with
 | none=>simp [h,Result.andThen] at hT
 | some d=>cases d <;> simp_all [Result.andThen]
theorem run_part {T n:Nat} {b:Bool} (hT:szT P T=n) (h0:0 < n) (ha:agT P T=some b) {cs:List SV} {vs:List Value} (h:agL g w cs vs) (off:Nat) (hl:off + n≤cs.length) (W:World):
 ∃ v,(part T vs.toArray off).run P W=.ok v W∧holds g w (partS (some b) n (cs.drop off)) v:=by
 have hlen:=h.len;unfold part;simp only [Sem.run_bind,run_isAgg ha,Result.andThen_ok];cases b with
 | true=>
   simp only [if_true,Sem.run_bind,run_sizeOf hT (by omega),Result.andThen_ok,Sem.run_pure];refine ⟨_,rfl,((vs.drop off).take n),?_,(h.drop off).take n⟩;simp [List.extract_toArray,List.extract_eq_take_drop,Nat.add_sub_cancel_left]
 | false=>
   have hlt:off < vs.length:=by omega
   obtain ⟨c,hc⟩:∃ c,cs[off]?=some c:=⟨cs[off],List.getElem?_eq_getElem (by omega)⟩;obtain ⟨v,hv,hh⟩:=h.get off c hc;refine ⟨v,?_,?_⟩
   ·simp [hv]
   ·have:(cs.drop off).headD .any=c:=by rw [List.headD_eq_head?_getD,List.head?_drop,hc];rfl
    simp only [partS,this];exact hh
theorem Quiet.ok {r:SV} {v:Value} (h:(execOp ρ o).run P w=.ok (.value v) w) (k:holds g w r v):Quiet P o ρ g w r:=⟨v,h,k⟩
theorem q_move {x:Operand} {s:SV} (ho:o.op=.move x∨o.op=.assign x) (h:holds g w s (ρ x)):Quiet P o ρ g w s:=
 .ok (by rcases ho with ho | ho <;> simp [execOp,ho]) h
theorem q_pick {c x y:Operand} {sc sx sy:SV} {nx:Nat} (ho:o.op=.pick c x y) (hc:holds g w sc (ρ c)) (hx:holds g w sx (ρ x)) (hy:holds g w sy (ρ y)) (hp:(pkV sc sx sy nx).p):Quiet P o ρ g w (pkV sc sx sy nx).r:=by
 cases sc with
 | v z=>
   cases z with
   | bool b=>
     have hc:ρ c=.bool b:=hc;refine .ok (v:=if b then ρ x else ρ y) (by simp [execOp,ho,hc,asBool]) ?_;cases b <;> simpa [pkV]
   | _=>exact hp.elim
 | _=>exact hp.elim
theorem q_nil {x:Operand} {s:SV} {nx:Nat} (ho:o.op=.nilCheck x) (h:holds g w s (ρ x)) (hp:(ncV s nx).p):Quiet P o ρ g w (ncV s nx).r:=by
 cases s with
 | ptr s v o=>
   refine .ok (v:=ρ x) ?_ h;obtain ⟨_,e⟩:=h;simp [execOp,ho,e]
 | rp cs=>
   refine .ok (v:=ρ x) ?_ h;obtain ⟨b,o,e,_⟩:=h;simp [execOp,ho,e]
 | _=>exact hp.elim
theorem run_place {T n:Nat} {b off:Nat} {f:Field} (hT:szT P f.type≠0) (W:World):(fieldPlace ⟨b,off,none⟩ f).run P W=.ok ⟨b,off + f.offset,none⟩ W:=by
 unfold fieldPlace;simp only [Sem.run_bind,run_sizeOf rfl hT,Result.andThen_ok,hT,if_false,Sem.run_pure,Addr.add];by_cases h:f.offset=0 <;> simp [h]
theorem q_fa {T i:Nat} {x:Operand} {s:SV} {nx:Nat} (ho:o.op=.fieldAddr T x i) (h:holds g w s (ρ x)) (hp:(faU P i s nx (P.underlying T)).p):Quiet P o ρ g w (faU P i s nx (P.underlying T)).r:=by
 cases hu:P.underlying T with
 | none=>rw [hu] at hp;exact hp.elim
 | some d=>
   rw [hu] at hp;cases d with
   | struct fs=>
     simp only [faU] at hp ⊢;cases hf:fs[i]? with
     | none=>rw [hf] at hp;exact hp.elim
     | some f=>
       rw [hf] at hp;have key:∀ b off,szT P f.type≠0→ρ x=.pointer (some ⟨b,off,none⟩)→(execOp ρ o).run P w=.ok (.value (.pointer (some ⟨b,off + f.offset,none⟩))) w:=fun b off hT e=>by
        simp only [execOp,ho,Instr.fieldAt,Sem.run_bind,run_und,hu,Result.andThen_ok,hf,e,Instr.sureAddr,Sem.run_pure,run_place (T:=T) (n:=i) hT]
       cases s with
       | ptr s v off=>
         obtain ⟨ha,e⟩:=h;exact .ok (key _ _ hp e) ⟨ha,rfl⟩
       | rp cs=>
         obtain ⟨b,off,e,hz,hc⟩:=h;obtain ⟨hp,hl⟩:=hp;exact .ok (key _ _ hp e) ⟨b,off + f.offset,rfl,hz,hc.drop _ hl⟩
       | _=>exact hp.elim
   | _=>exact hp.elim
theorem q_fl {T i:Nat} {x:Operand} {s:SV} {nx:Nat} (ho:o.op=.field T x i) (h:holds g w s (ρ x)) (hp:(flU P i nx s (P.underlying T)).p):Quiet P o ρ g w (flU P i nx s (P.underlying T)).r:=by
 cases s with
 | agg cs=>
   cases hu:P.underlying T with
   | none=>rw [hu] at hp;exact hp.elim
   | some d=>
     rw [hu] at hp;cases d with
     | struct fs=>
       simp only [flU] at hp ⊢;cases hf:fs[i]? with
       | none=>rw [hf] at hp;exact hp.elim
       | some f=>
         rw [hf] at hp;obtain ⟨h1,h2,h3⟩:=hp;obtain ⟨b,hb⟩:=Option.ne_none_iff_exists'.1 h3;obtain ⟨vs,e,hv⟩:=h;obtain ⟨v,hr,hh⟩:=run_part rfl h2 hb hv f.offset h1 w;refine .ok (v:=v) ?_ (by simpa [flF,hb] using hh);simp only [execOp,ho,Instr.field,Sem.run_bind,run_und,hu,Result.andThen_ok,hf,e,asAgg,Sem.run_pure,hr]
     | _=>exact hp.elim
 | _=>exact hp.elim
theorem q_ex {i:Nat} {x:Operand} {s:SV} {nx:Nat} (ho:o.op=.extract x i) (h:holds g w s (ρ x)) (hp:(exV i nx s).p):Quiet P o ρ g w (exV i nx s).r:=by
 cases s with
 | tup cs=>
   obtain ⟨vs,e,hv⟩:=h;have hp:i < cs.length:=hp;obtain ⟨v,h1,h2⟩:=hv.get i cs[i] (List.getElem?_eq_getElem hp);refine .ok (v:=v) (by simp [execOp,ho,Instr.extract,e,h1]) ?_;simpa [exV,hp] using h2
 | _=>exact hp.elim
theorem run_guard_int (op:BinOp) (T:TypeId) (x y:Operand) (k k':IntKind) (a b:Int) (W:World):(eqGuard op T x y (.int k a) (.int k' b)).run P W=.ok () W:=by
 unfold eqGuard;split <;> simp
theorem q_bi {op:BinOp} {T U:TypeId} {x y:Operand} {sx sy:SV} {nx:Nat} (ho:o.op=.binOp op T x y U) (hx:holds g w sx (ρ x)) (hy:holds g w sy (ρ y)) (hp:(biV op nx sx sy).p):Quiet P o ρ g w (biV op nx sx sy).r:=by
 cases sx with
 | v vx=>
   cases sy with
   | v vy=>
     have hx:ρ x=vx:=hx;have hy:ρ y=vy:=hy;cases vx with
     | int k a=>
       cases vy with
       | int k' b=>
         simp only [biV] at hp ⊢;have hg:=run_guard_int (P:=P) op T x y k k' a b w;cases op <;> simp only [biI] at hp ⊢ <;> first
          | exact hp.elim
          | (refine .ok (v:=_) ?_ rfl
             simp only [execOp,ho,hx,hy,Sem.run_bind,hg,Result.andThen_ok]
             first
              | (subst hp;simp [binOp,Op.intArith,Op.intBits,Op.intCmp];done)
              | (subst hp;simp [binOp,Op.intArith,Op.intBits,Op.intCmp];first | rfl | exact beq_eq_decide .. | (rw [bne,beq_eq_decide]))
              | (obtain ⟨hp,hb⟩:=hp;subst hp;simp [binOp,Op.intDiv,hb])
              | (simp [binOp,Op.shift,Int.not_lt.2 hp]))
       | _=>exact hp.elim
     | float k a=>
       cases vy with
       | float k' b=>
         simp only [biV] at hp ⊢;cases op <;> simp only at hp ⊢ <;> first
          | exact hp.elim
          | (refine .ok (v:=_) ?_ rfl
             subst hp;simp [execOp,ho,hx,hy,eqGuard,binOp,Op.floatCmp])
       | _=>exact hp.elim
     | string a=>
       cases vy with
       | string b=>
         simp only [biV] at hp ⊢;cases op <;> simp only at hp ⊢ <;> first
          | exact hp.elim
          | (refine .ok (v:=_) ?_ rfl
             simp [execOp,ho,hx,hy,eqGuard,binOp,Op.stringOp];done)
          | (refine .ok (v:=_) ?_ rfl
             have h63:¬ (((a.size + b.size:Nat):Int) > IntKind.i64.max):=by
              have:IntKind.i64.max=9223372036854775807:=rfl;have hp:a.size + b.size≤9223372036854775807:=hp;omega
             simp only [execOp,ho,hx,hy,eqGuard,binOp,Op.stringOp,if_neg h63];simp)
       | _=>exact hp.elim
     | _=>exact hp.elim
   | _=>cases vx <;> exact hp.elim
 | _=>exact hp.elim
theorem run_equal_bool {T:TypeId} (hT:P.underlying T=some .bool) (a b:Bool) (W:World):(Op.equal T (.bool a) (.bool b)).run P W=.ok (a==b) W:=by
 unfold Op.equal;rw [show Op.maxDepth=9999 + 1 from rfl];unfold Op.equalIn;simp only [Sem.run_bind,run_und,hT,Result.andThen_ok,Sem.run_pure]
theorem q_bx {op:BinOp} {T U:TypeId} {x y:Operand} {sx sy:SV} {nx:Nat} (ho:o.op=.binOp op T x y U) (hx:holds g w sx (ρ x)) (hy:holds g w sy (ρ y)) (hp:(biX op nx (P.underlying T) sx sy).p):Quiet P o ρ g w (biX op nx (P.underlying T) sx sy).r:=by
 unfold biX at hp ⊢
 split at hp
 ·rename_i a b hT
  have hx:ρ x=.bool a:=hx;have hy:ρ y=.bool b:=hy;have he:=run_equal_bool (P:=P) hT a b w;cases op <;> simp only at hp ⊢ <;> first
   | exact hp.elim
   | (refine .ok (v:=_) ?_ rfl
      simp [execOp,ho,hx,hy,eqGuard,binOp,he])
 ·exact q_bi ho hx hy hp
theorem q_un {op:UnOp} {T:TypeId} {x:Operand} {s:SV} {nx:Nat} (ho:o.op=.unOp op T x) (h:holds g w s (ρ x)) (hp:(unV op nx s).p):Quiet P o ρ g w (unV op nx s).r:=by
 cases s with
 | v vx=>
   have hx:ρ x=vx:=h;cases vx with
   | int k a=>cases op <;> first | exact hp.elim | exact .ok (v:=_) (by simp [execOp,ho,hx,Op.unary,Op.intArith]) rfl
   | bool a=>cases op <;> first | exact hp.elim | exact .ok (v:=_) (by simp [execOp,ho,hx,Op.unary]) rfl
   | _=>exact hp.elim
 | _=>exact hp.elim
theorem q_cv {T U:TypeId} {x:Operand} {s:SV} {nx:Nat} (ho:o.op=.convert T U x) (h:holds g w s (ρ x)) (hp:(cvV nx s (P.underlying T) (P.underlying U)).p):Quiet P o ρ g w (cvV nx s (P.underlying T) (P.underlying U)).r:=by
 cases s with
 | v vx=>
   have hx:ρ x=vx:=h;cases vx with
   | int k a=>
     cases hT:P.underlying T with
     | none=>rw [hT] at hp;exact hp.elim
     | some dT=>
       cases hU:P.underlying U with
       | none=>rw [hT,hU] at hp;exact hp.elim
       | some dU=>
         rw [hT,hU] at hp;cases dU with
         | int k'=>exact .ok (v:=.int k' (k'.wrap a)) (by cases dT <;> simp [execOp,ho,hx,convert,run_und,hT,hU,Conv.intToInt]) rfl
         | _=>exact hp.elim
   | _=>exact hp.elim
 | _=>exact hp.elim
theorem run_bound {x:Value} {k:IntKind} {i:Int} (hx:x=.int k i) {y:Nat} {c:BoundsCode} (h0:0≤i) (h1:i≤y) (W:World):(Instr.sliceBound x y c).run P W=.ok i.toNat W:=by
 subst hx;simp [Instr.sliceBound,asIntOf,h0,h1]
def optH (g:Cx) (w:World) (s:Option SV) (v:Option Value):Prop:=match s,v with | none,none=>True | some s,some v=>holds g w s v | _,_=>False
theorem bnd_some {s:Option SV} {d i:Int} {v:Option Value} (hb:bnd s d=some i) (hv:optH g w s v):
 (s=none∧v=none∧i=d)∨∃ k x,v=some x∧x=.int k i:=by
 cases s with
 | none=>
   cases v with
   | none=>exact .inl ⟨rfl,rfl,by simpa [bnd] using hb.symm⟩
   | some _=>exact hv.elim
 | some s=>
   cases v with
   | none=>exact hv.elim
   | some v=>
     cases s with
     | v z=>cases z <;> simp [bnd] at hb;subst hb;exact .inr ⟨_,v,rfl,hv⟩
     | _=>simp [bnd] at hb
theorem run_bounds {lo hi:Option SV} {vl vh:Option Value} {n c:Nat} {l h:Int} (hl:bnd lo 0=some l) (hh:bnd hi n=some h) (kl:optH g w lo vl) (kh:optH g w hi vh) (h0:0≤l) (h1:l≤h) (h2:h≤n) (hc:n≤c) (W:World):
 (Instr.sliceBounds true n c vl vh none).run P W=.ok (l.toNat,h.toNat,c) W:=by
 unfold Instr.sliceBounds;rcases bnd_some hh kh with ⟨_,rfl,rfl⟩ | ⟨k,x,rfl,hx⟩ <;> rcases bnd_some hl kl with ⟨_,rfl,rfl⟩ | ⟨k',x',rfl,hx'⟩
 ·simp
 ·simp [run_bound hx' h0 (y:=n) h1]
 ·simp [run_bound hx (by omega) (y:=c) (by omega)]
 ·simp [run_bound hx (by omega) (y:=c) (by omega),run_bound hx' h0 (y:=h.toNat) (by omega)]
theorem q_sl {T:TypeId} {x:Operand} {lo hi:Option Operand} {s:SV} {sl sh:Option SV} {nx:Nat} (ho:o.op=.slice T x lo hi none) (h:holds g w s (ρ x)) (hl:optH g w sl (lo.map ρ)) (hh:optH g w sh (hi.map ρ)) (hp:(slV P nx sl sh s (P.underlying T)).p):Quiet P o ρ g w (slV P nx sl sh s (P.underlying T)).r:=by
 cases s with
 | sl n k cs=>
   cases hT:P.underlying T with
   | none=>rw [hT] at hp;exact hp.elim
   | some dT=>
     rw [hT] at hp;cases dT with
     | slice e=>
       simp only [slV] at hp ⊢;obtain ⟨⟨he,h0'⟩,hp⟩:=hp;cases hbl:bnd sl 0 with
       | none=>simp [hbl,slB] at hp
       | some l=>
         cases hbh:bnd sh n with
         | none=>simp [hbl,hbh,slB] at hp
         | some h2=>
           simp only [hbl,hbh,slB] at hp ⊢;obtain ⟨p0,p1,p2⟩:=hp;obtain ⟨a,c,e1,hn,hlen,hc⟩:=h;have hb:=run_bounds (P:=P) hbl hbh hl hh p0 p1 p2 hn.1 w;have hmul:(h2 - l).toNat * k + l.toNat * k≤n * k:=by
            rw [← Nat.add_mul];exact Nat.mul_le_mul_right k (by omega)
           have hlen2:((cs.drop (l.toNat * k)).take ((h2 - l).toNat * k)).length=(h2 - l).toNat * k:=by
            rw [List.length_take,List.length_drop];omega
           refine .ok (v:=.slice (if c=l.toNat then a else a.map (·.add (l.toNat * k))) (h2.toNat - l.toNat) (c - l.toNat)) ?_ ⟨_,_,by rw [show (h2 - l).toNat=h2.toNat - l.toNat by omega],by omega,hlen2,?_⟩
           ·simp only [execOp,ho,Instr.sliceAt,Instr.slice,Sem.run_bind,run_und,hT,e1,Option.map_none,Result.andThen_ok,hb,run_sizeOf he (by omega),Sem.run_pure]
           ·rw [hlen2]
            by_cases hz:(h2 - l).toNat * k=0
            ·exact .inl hz
            ·right
             rcases hc with hc | ⟨b,off,rfl,hz',hc⟩
             ·omega
             ·have hcl:c≠l.toNat:=fun e=>hz (by rw [show (h2 - l).toNat=0 by omega,Nat.zero_mul])
              exact ⟨b,off + l.toNat * k,by simp [hcl,Addr.add];try omega,hz',(hc.drop _ (by omega)).take _⟩
     | _=>exact hp.elim
 | _=>exact hp.elim
theorem sub_len {cs:List SV} {n k i:Nat} (h:cs.length=n * k) (hi:i < n):(sub cs i k).length=k∧i * k + k≤cs.length:=by
 have:i * k + k≤n * k:=by
  have:=Nat.mul_le_mul_right k (Nat.succ_le_of_lt hi);rwa [Nat.succ_mul] at this
 unfold sub;rw [List.length_take,List.length_drop];omega
theorem q_ia {T:TypeId} {x y:Operand} {s t:SV} {nx:Nat} (ho:o.op=.indexAddr T x y) (h:holds g w s (ρ x)) (hy:holds g w t (ρ y)) (hp:(iaV P nx s t (P.underlying T)).p):Quiet P o ρ g w (iaV P nx s t (P.underlying T)).r:=by
 cases t with
 | v vy=>
   have hy:ρ y=vy:=hy;cases hT:P.underlying T with
   | none=>rw [hT] at hp;cases s <;> cases vy <;> exact hp.elim
   | some dT=>
     rw [hT] at hp;cases vy with
     | int k' i=>
       cases dT with
       | slice e=>
         cases s with
         | sl n k cs=>
           obtain ⟨⟨he,h0'⟩,h0,h1⟩:=hp;obtain ⟨a,c,e1,hn,hlen,hc⟩:=h;have hs:=sub_len hlen (i:=i.toNat) (by omega);rcases hc with hc | ⟨b,off,rfl,hz,hc⟩
           ·omega
           ·refine .ok (v:=.pointer (some ⟨b,off + i.toNat * k,none⟩)) ?_ ⟨b,off + i.toNat * k,rfl,hz,(hc.drop _ (by omega)).take _⟩
            have:i < (n:Int):=h1;simp [execOp,ho,Instr.indexAt,hy,e1,asIntOf,run_und,hT,h0,this,run_sizeOf he (by omega),Addr.add]
            try omega
         | own s v n k=>
           obtain ⟨⟨he,h0'⟩,h0,h1⟩:=hp;obtain ⟨ha,hn,e1⟩:=h;have e1:ρ x=.slice (some ⟨g.mu v,0,none⟩) n (g.ka v):=e1.resolve_right fun e=>by omega
           refine .ok (v:=.pointer (some ⟨g.mu v,i.toNat * k,none⟩)) ?_ ⟨ha,rfl⟩;have:i < (n:Int):=h1;simp [execOp,ho,Instr.indexAt,hy,e1,asIntOf,run_und,hT,h0,this,run_sizeOf he (by omega),Addr.add]
           try omega
         | _=>exact hp.elim
       | _=>cases s <;> exact hp.elim
     | _=>cases s <;> cases dT <;> exact hp.elim
 | _=>cases s <;> exact hp.elim
theorem q_ix {T:TypeId} {x y:Operand} {s t:SV} {nx:Nat} (ho:o.op=.index T x y) (h:holds g w s (ρ x)) (hy:holds g w t (ρ y)) (hp:(ixV nx s t (P.underlying T)).p):Quiet P o ρ g w (ixV nx s t (P.underlying T)).r:=by
 unfold ixV at hp ⊢
 split at hp
 ·rename_i s' k i hT
  obtain ⟨h0,h1⟩:=hp;have hx:ρ x=.string s':=h;have hy:ρ y=.int k i:=hy;have hlt:i.toNat < s'.size:=by omega
  refine .ok (v:=.int .u8 (s'.get! i.toNat).toNat) ?_ rfl;simp only [execOp,ho,Instr.index,hx,hy,asIntOf,Sem.run_bind,Sem.run_pure,Result.andThen_ok,run_und,hT,h0,if_true];rw [getElem?_pos s' i.toNat hlt];simp [ByteArray.get!,hlt]
  rfl
 ·exact hp.elim
theorem q_ln {T ty:TypeId} {x:Operand} {s:SV} {nx:Nat} (ho:o.op=.call { callee:=.builtin .len,args:=#[x],argTypes:=#[T] }) (h:holds g w s (ρ x)) (hp:(lnV nx s (P.underlying T)).p):Quiet P o ρ g w (lnV nx s (P.underlying T)).r:=by
 have key:∀ n:Int,(Builtin.len_ #[T] o.type #[ρ x]).run P w=.ok (.int .i64 n) w→(execOp ρ o).run P w=.ok (.value (.int .i64 n)) w:=fun n hr=>by
  simp only [execOp,ho,resolve,Sem.run_bind,Sem.run_pure,Result.andThen_ok,invoke,builtin,List.map_toArray,List.map_cons,List.map_nil,hr]
 unfold lnV at hp ⊢
 split at hp
 ·rename_i n k cs e hT
  obtain ⟨a,c,e1,_⟩:=h;exact .ok (key _ (by simp [Builtin.len_,run_und,hT,e1,goInt])) rfl
 ·rename_i s1 v1 n k1 e hT
  obtain ⟨_,hn,e1 | ⟨e0,e1⟩⟩:=h
  ·exact .ok (key _ (by simp [Builtin.len_,run_und,hT,e1,goInt])) rfl
  ·obtain rfl:n=0:=by omega
   exact .ok (key _ (by simp [Builtin.len_,run_und,hT,e1,goInt])) rfl
 ·rename_i a n c e hT
  have e1:ρ x=.slice a n c:=h;exact .ok (key _ (by simp [Builtin.len_,run_und,hT,e1,goInt])) rfl
 ·rename_i s' hT
  have e1:ρ x=.string s':=h;exact .ok (key _ (by simp [Builtin.len_,run_und,hT,e1,goInt])) rfl
 ·exact hp.elim
theorem run_cellsFrom:∀ (n:Nat) (vs:List Value) (b off i:Nat) (acc:Array Value) (W:World),vs.length=n→(∀ j x,vs[j]?=some x→W.cell? ⟨b,off + i + j,none⟩=some x)→(loadCellsFrom ⟨b,off,none⟩ i n acc).run P W=.ok (acc ++ vs.toArray) W
 | 0,[],_,_,_,acc,W,_,_=>by simp [loadCellsFrom]
 | n + 1,v :: vs,b,off,i,acc,W,hl,h=>by
   have h0:W.cell? ((⟨b,off,none⟩:Addr).add i)=some v:=by
    have:=h 0 v rfl;unfold Addr.add;by_cases hi:i=0 <;> simp [hi] at this ⊢ <;> exact this
   have ih:=run_cellsFrom n vs b off (i + 1) (acc.push v) W (by simpa using hl) fun j x e=>by
    have:=h (j + 1) x (by simpa using e);rw [show off + (i + 1) + j=off + i + (j + 1) by omega];exact this
   simp only [loadCellsFrom,Sem.run_bind];have hr:(load ((⟨b,off,none⟩:Addr).add i)).run P W=.ok v W:=by simp [load,Sem.run,h0]
   rw [hr];simp only [Result.andThen_ok,ih];simp
theorem run_loadVar {T n:Nat} {b:Option Bool} (hT:szT P T=n) (h0:0 < n) (ha:agT P T=b) (hb:b≠none) {cs:List SV} {bl off:Nat} {vs:List Value} (hv:agL g w (cs.take n) vs) (hn:n≤cs.length) (hc:∀ j x,vs[j]?=some x→w.cell? ⟨bl,off + j,none⟩=some x):
 ∃ v,(loadVar T ⟨bl,off,none⟩).run P w=.ok v w∧holds g w (partS b n cs) v:=by
 obtain ⟨b,rfl⟩:=Option.ne_none_iff_exists'.1 hb;have hl:=hv.len;rw [List.length_take] at hl;unfold loadVar;simp only [Sem.run_bind,run_isAgg ha,Result.andThen_ok];cases b with
 | true=>
   have hr:=run_cellsFrom (P:=P) n vs bl off 0 #[] w (by omega) (by simpa using hc);simp only [if_true,Sem.run_bind,run_sizeOf hT (by omega),Result.andThen_ok,loadCells,hr,Sem.run_pure];exact ⟨_,rfl,vs,by simp,hv⟩
 | false=>
   obtain ⟨c,ct,rfl⟩:∃ c ct,cs=c :: ct:=by cases cs with | nil=>simp at hn;omega | cons c ct=>exact ⟨c,ct,rfl⟩
   obtain ⟨v,vt,rfl⟩:∃ v vt,vs=v :: vt:=by cases vs with | nil=>simp at hl;omega | cons v vt=>exact ⟨v,vt,rfl⟩
   have h1:=hc 0 v rfl;have:holds g w c v:=by
    obtain ⟨m,rfl⟩:∃ m,n=m + 1:=⟨n - 1,by omega⟩;rw [List.take_succ_cons] at hv;exact hv.1
   exact ⟨v,by simp [load,Sem.run,show w.cell? ⟨bl,off,none⟩=some v from h1],this⟩
theorem q_ld {T:TypeId} {x:Operand} {s:SV} {H:Nat→Option Row} {nx:Nat} (ho:o.op=.load T x) (h:holds g w s (ρ x)) (hr:∀ u ∈ (ldV (agT P T) (szT P T) H nx s).rd,∀ r,H u=some r→rowIn g w r) (hp:(ldV (agT P T) (szT P T) H nx s).p):Quiet P o ρ g w (ldV (agT P T) (szT P T) H nx s).r:=by
 have key:∀ b off v,ρ x=.pointer (some ⟨b,off,none⟩)→(loadVar T ⟨b,off,none⟩).run P w=.ok v w→(execOp ρ o).run P w=.ok (.value v) w:=fun b off v e hr=>by
  simp only [execOp,ho,Instr.loadAt,e,Instr.sureAddr,Sem.run_bind,Sem.run_pure,Result.andThen_ok,hr]
 cases s with
 | ptr s ver off=>
   cases hH:H s with
   | none=>simp only [ldV,hH] at hp;exact hp.elim
   | some r=>
     simp only [ldV,hH,ldR] at hp hr ⊢;obtain ⟨hv,hl,h0,ha⟩:=hp;obtain ⟨_,arr,h1,h2,h3,h4⟩:=(hr s (by simp) r hH).arr (by omega);obtain ⟨_,e⟩:=h;subst hv;have h5:=(h4.drop off).take (szT P T);obtain ⟨v,h6,h7⟩:=run_loadVar (P:=P) (T:=T) rfl h0 rfl ha (cs:=r.cs.drop off) (bl:=g.mu r.ver) (off:=off) h5 (by rw [List.length_drop];omega) fun j x hj=>by
      have hj1:j < szT P T:=by
       have:=(List.getElem?_eq_some_iff.1 hj).1;rw [List.length_take] at this;omega
      rw [List.getElem?_take_of_lt hj1,List.getElem?_drop,List.getElem?_take_of_lt (by omega)] at hj;simpa [World.cell?,h1] using hj
     exact .ok (key _ _ _ e h6) h7
 | rp cs=>
   obtain ⟨b,off,e,hz,hc⟩:=h;obtain ⟨hl,h0,ha⟩:=hp;obtain ⟨vs,h1,h2⟩:=hc.vals;obtain ⟨v,h6,h7⟩:=run_loadVar (P:=P) (T:=T) (g:=g.pure) rfl h0 rfl ha (cs:=cs) (bl:=b) (off:=off) (h1.take _) hl fun j x hj=>by
    have hj1:j < szT P T:=by
     have:=(List.getElem?_eq_some_iff.1 hj).1;rw [List.length_take] at this;omega
    rw [List.getElem?_take_of_lt hj1] at hj;obtain ⟨y,e1,e2⟩:=h2 j (by omega);rw [e1] at hj;cases hj
    exact e2
   exact .ok (key _ _ _ e h6) h7.up
 | _=>exact hp.elim
end
def cellsO:SV→Option (List SV)
 | .agg cs=>some cs
 | .v (.agg cs)=>some (cs.toList.map .v)
 | .any=>none
 | x=>some [x]
def flat:SV→Bool
 | .v (.agg _) | .v (.tuple _) | .agg _ | .tup _ | .any=>false
 | _=>true
def scal:Value→Bool
 | .agg _ | .tuple _=>false
 | _=>true
structure Chg (g g':Cx) (w w':World) (B:Nat→Prop) (nx:Nat):Prop where
 le:g.le g'
 z:g'.Z=g.Z
 ver:∀ u,g'.A u→g.A u∨(u=nx∧(g'.ka u≠0→g'.mu u < w'.heap.size))
 size:w.heap.size≤w'.heap.size
 blk:∀ b,b < w.heap.size→¬ B b→w'.heap[b]?=w.heap[b]?
 io:w'.os=w.os∧w'.tape=w.tape∧w'.output=w.output
def Eff (P:Program) (o:Oper) (ρ:Operand→Value) (g:Cx) (w:World) (H:Nat→Option Row) (nx:Nat) (fz:List Nat) (R:Rs):Prop:=
 ∃ (v:Value) (w':World) (g':Cx),((execOp ρ o).run P w=.ok (.value v) w'∨((execOp ρ o).run P w=.ok .skip w'∧v=undef))∧holds g' w' R.r v∧
  Chg g g' w w' (fun b=>∃ s r' r,R.wr=some (s,r')∧H s=some r∧g.ka r.ver≠0∧fz.contains s=false∧b=g.mu r.ver) nx∧(R.wr=none→g'=g∧w'=w)∧
  ∀ s r',R.wr=some (s,r')→rowIn g' w' r'∧(g'.ka r'.ver≠0→w.heap.size≤g'.mu r'.ver∨∃ r,H s=some r∧g.ka r.ver≠0∧g'.mu r'.ver=g.mu r.ver)
section
variable {P:Program} {g:Cx} {w:World} {ρ:Operand→Value} {o:Oper} {H:Nat→Option Row} {nx:Nat} {fz:List Nat}
theorem Chg.refl (g:Cx) (w:World) (B:Nat→Prop) (nx:Nat):Chg g g w w B nx:=⟨.refl g,rfl,fun _ h=>.inl h,Nat.le_refl _,fun _ _ _=>rfl,rfl,rfl,rfl⟩
theorem Quiet.eff {R:Rs} (h:Quiet P o ρ g w R.r) (hw:R.wr=none):Eff P o ρ g w H nx fz R:=by
 obtain ⟨v,h1,h2⟩:=h;exact ⟨v,w,g,.inl h1,h2,.refl ..,fun _=>⟨rfl,rfl⟩,fun s r' e=>by rw [hw] at e;cases e⟩
theorem cellsO_holds {s:SV} {cs:List SV} {v:Value} (hs:cellsO s=some cs) (h:holds g w s v):agL g w cs v.cells.toList:=by
 cases s with
 | any=>cases hs
 | agg ds=>obtain ⟨vs,e,h⟩:=h;cases hs;subst e;exact h
 | v x=>
   have h:v=x:=h;subst h;cases v <;> simp only [cellsO] at hs <;> cases hs <;> first | exact agL.ofv _ | exact ⟨rfl,trivial⟩
 | sl n k ds=>cases hs;have:=h;obtain ⟨a,c,e,_⟩:=h;subst e;exact ⟨this,trivial⟩
 | tup ds=>cases hs;have:=h;obtain ⟨vs,e,_⟩:=h;subst e;exact ⟨this,trivial⟩
 | ptr s v o=>cases hs;have:=h;obtain ⟨_,e⟩:=h;subst e;exact ⟨this,trivial⟩
 | own s v n k=>cases hs;have:=h;obtain ⟨_,_,e | ⟨_,e⟩⟩:=h <;> subst e <;> exact ⟨this,trivial⟩
 | rp ds=>cases hs;have:=h;obtain ⟨b,o,e,_⟩:=h;subst e;exact ⟨this,trivial⟩
 | s q=>cases hs;have:=h;obtain ⟨a,n,c,e,_⟩:=h;subst e;exact ⟨this,trivial⟩
theorem flat_scal {s:SV} {v:Value} (hs:flat s=true) (h:holds g w s v):scal v=true:=by
 cases s with
 | v x=>have h:v=x:=h;subst h;cases v <;> first | rfl | cases hs
 | sl n k ds=>obtain ⟨a,c,e,_⟩:=h;subst e;rfl
 | ptr s v o=>obtain ⟨_,e⟩:=h;subst e;rfl
 | own s v n k=>obtain ⟨_,_,e | ⟨_,e⟩⟩:=h <;> subst e <;> rfl
 | rp ds=>obtain ⟨b,o,e,_⟩:=h;subst e;rfl
 | s q=>obtain ⟨a,n,c,e,_⟩:=h;subst e;rfl
 | _=>cases hs
theorem flats_scal:∀ {cs:List SV} {vs:List Value},cs.all flat=true→agL g w cs vs→vs.all scal=true
 | [],[],_,_=>rfl
 | c :: cs,v :: vs,hf,h=>by
   rw [List.all_cons,Bool.and_eq_true] at hf ⊢;exact ⟨flat_scal hf.1 h.1,flats_scal hf.2 h.2⟩
def Cx.add (g:Cx) (n b k:Nat):Cx:=⟨g.Z,fun u=>g.A u∨u=n,fun u=>if u=n then b else g.mu u,fun u=>if u=n then k else g.ka u⟩
theorem Cx.le_add {n b k:Nat} (h:¬ g.A n):g.le (g.add n b k):=
 ⟨fun _ h=>h,fun u hu=>⟨.inl hu,by simp [Cx.add,show u≠n from fun e=>h (e ▸ hu)],by simp [Cx.add,show u≠n from fun e=>h (e ▸ hu)]⟩⟩
theorem heap_alloc_old {o:Obj} {b:Nat} (h:b < w.heap.size):(w.alloc o).heap[b]?=w.heap[b]?:=by
 show (w.heap.push o)[b]?=_;rw [Array.getElem?_push_lt h,Array.getElem?_eq_getElem h]
theorem heap_alloc_new {o:Obj}:(w.alloc o).heap[w.heap.size]?=some o:=by show (w.heap.push o)[w.heap.size]?=_;simp
theorem heap_alloc_size {o:Obj}:(w.alloc o).heap.size=w.heap.size + 1:=by show (w.heap.push o).size=_;simp
theorem new_row {T k n:Nat} {arr:Array Value} {cs:List SV} (hn:¬ g.A nx) (hz:∀ b,g.Z b→b < w.heap.size) (hk:arr.size=n * k) (hl:cs.length≤arr.size) (h:agL g w cs (arr.toList.take cs.length)):
 ∃ g' w',g'=g.add nx w.heap.size n∧w'=w.alloc (.cells arr T)∧(∀ B,Chg g g' w w' B nx)∧rowIn g' w' ⟨nx,T,k,cs⟩∧g'.A nx∧g'.mu nx=w.heap.size∧g'.ka nx=n:=by
 have hle:g.le (g.add nx w.heap.size n):=Cx.le_add hn;have hw:∀ b,g.Z b→(w.alloc (.cells arr T)).heap[b]?=w.heap[b]?:=fun b hb=>heap_alloc_old (hz b hb)
 have hm:(g.add nx w.heap.size n).mu nx=w.heap.size:=by simp [Cx.add]
 have hka:(g.add nx w.heap.size n).ka nx=n:=by simp [Cx.add]
 refine ⟨_,_,rfl,rfl,fun B=>⟨hle,rfl,fun u hu=>?_,by rw [heap_alloc_size];omega,fun b hb _=>heap_alloc_old hb,rfl,rfl,rfl⟩,⟨.inr rfl,.inr ⟨arr,?_,?_,hl,h.mono hle hw⟩⟩,.inr rfl,hm,hka⟩
 ·rcases hu with hu | hu
  ·exact .inl hu
  ·exact .inr ⟨hu,fun _=>by subst hu;rw [hm,heap_alloc_size];omega⟩
 ·show (w.alloc (.cells arr T)).heap[(g.add nx w.heap.size n).mu nx]?=_
  rw [hm];exact heap_alloc_new
 ·show arr.size=(g.add nx w.heap.size n).ka nx * k
  rw [hka];exact hk
theorem eff_new {T k n d:Nat} {arr:Array Value} {cs:List SV} {r:SV} {v:Value} {rd:List Nat} {p:Prop} {nx':Nat} (hn:¬ g.A nx) (hz:∀ b,g.Z b→b < w.heap.size) (hk:arr.size=n * k) (hl:cs.length≤arr.size) (h:agL g w cs (arr.toList.take cs.length))
 (hr:(execOp ρ o).run P w=.ok (.value v) (w.alloc (.cells arr T))) (hv:∀ g' w',g'.A nx→g'.mu nx=w.heap.size→g'.ka nx=n→holds g' w' r v):Eff P o ρ g w H nx fz ⟨p,r,rd,some (d,⟨nx,T,k,cs⟩),nx'⟩:=by
 obtain ⟨g',w',e1,e2,h1,h2,h3,h4,h5⟩:=new_row (T:=T) hn hz hk hl h;refine ⟨v,w',g',.inl (by rw [e2];exact hr),hv _ _ h3 h4 h5,h1 _,fun h=>(by cases h),fun s r' e=>?_⟩;cases e
 exact ⟨h2,fun _=>.inl (by show w.heap.size≤g'.mu nx;omega)⟩
def alV (T:TypeId) (d nx:Nat):Option Value→Rs
 | some z=>⟨True,.ptr d nx 0,[],some (d,⟨nx,T,z.cells.size,z.cells.toList.map .v⟩),nx + 1⟩
 | none=>bad nx
theorem run_zero {T:Nat} {z:Value} (h:zcT P T=some z) (W:World):(zeroValue T).run P W=.ok z W:=by
 unfold zcT zeroValue typeInfo at *;simp only [Sem.run_bind,run_program,Result.andThen_ok] at *;cases hi:P.info? T with
 | none=>simp [hi,stuck] at h
 | some i=>
   cases hz:i.zero with
   | none=>simp [hi,hz,unsupported] at h
   | some z'=>simpa [hi,hz] using h
theorem e_al {T d:Nat} (ho:o.op=.alloc T) (hn:(alV T d nx (zcT P T)).wr≠none→¬ g.A nx) (hz:∀ b,g.Z b→b < w.heap.size) (hp:(alV T d nx (zcT P T)).p):Eff P o ρ g w H nx fz (alV T d nx (zcT P T)):=by
 cases hc:zcT P T with
 | none=>rw [hc] at hp;exact hp.elim
 | some z=>
   have hn:=hn (by rw [hc];simp [alV]);refine eff_new (n:=1) (arr:=z.cells) (v:=.pointer (some ⟨w.heap.size,0,none⟩)) hn hz (by simp) (by simp) ?_ ?_ fun g' w' h1 h2 _=>⟨h1,by rw [h2]⟩
   ·have:z.cells.toList.take ((z.cells.toList.map SV.v).length)=z.cells.toList:=List.take_of_length_le (by simp)
    rw [this];exact agL.ofv _
   ·simp only [execOp,ho,Instr.alloc,Sem.run_bind,run_zero hc,Result.andThen_ok,newVar,newRow,newObj,Sem.run,Sem.run_pure,World.alloc]
    try rfl
def bxV (T:TypeId) (d nx:Nat):Option (List SV)→Rs
 | some cs=>⟨True,.ptr d nx 0,[],some (d,⟨nx,T,cs.length,cs⟩),nx + 1⟩
 | none=>bad nx
theorem e_bx {T d:Nat} {x:Operand} {s:SV} (ho:o.op=.box T x) (h:holds g w s (ρ x)) (hn:(bxV T d nx (cellsO s)).wr≠none→¬ g.A nx) (hz:∀ b,g.Z b→b < w.heap.size) (hp:(bxV T d nx (cellsO s)).p):Eff P o ρ g w H nx fz (bxV T d nx (cellsO s)):=by
 cases hc:cellsO s with
 | none=>rw [hc] at hp;exact hp.elim
 | some cs=>
   have hn:=hn (by rw [hc];simp [bxV]);have hh:=cellsO_holds hc h;have hl:cs.length=(ρ x).cells.size:=by simpa using hh.len
   refine eff_new (n:=1) (arr:=(ρ x).cells) (v:=.pointer (some ⟨w.heap.size,0,none⟩)) hn hz (by simp [hl]) (by omega) ?_ ?_ fun g' w' h1 h2 _=>⟨h1,by rw [h2]⟩
   ·rw [List.take_of_length_le (by simp [hl])];exact hh
   ·simp only [execOp,ho,Instr.box,Sem.run_bind,newVar,newRow,newObj,Sem.run,Sem.run_pure,Result.andThen_ok,World.alloc]
    try rfl
theorem ovw_len {α:Type} {cs new:List α} {o:Nat} (h:o + new.length≤cs.length):(ovw cs o new).length=cs.length:=by
 unfold ovw;simp;omega
theorem agL.ovw {cs new:List SV} {vs us:List Value} (h:agL g w cs vs) (k:agL g w new us) (o:Nat):agL g w (ovw cs o new) (ovw vs o us):=by
 unfold Am.ovw;rw [← k.len];exact ((h.take o).append k).append (h.drop _)
theorem ovw_cons {α:Type} (l:List α) (o:Nat) (x:α) (xs:List α) (h:o < l.length):ovw (l.set o x) (o + 1) xs=ovw l o (x :: xs):=by
 unfold ovw;have e1:(l.set o x).take (o + 1)=l.take o ++ [x]:=by
  rw [List.take_set,List.take_succ_eq_append_getElem h,List.set_append_right _ _ (by rw [List.length_take];exact Nat.min_le_left ..)];simp [List.length_take,Nat.min_eq_left (Nat.le_of_lt h)]
 rw [e1,List.drop_set_of_lt (by rw [Nat.add_assoc];omega)];simp [Nat.add_assoc,Nat.add_comm 1]
theorem run_store {a:Addr} {v:Value} (hs:scal v=true) {x:Value} (hc:w.cell? a=some x) (hf:w.frozen? a=false):(store a v).run P w=.ok () (w.setCell a v):=by
 unfold store;cases v <;> first | (exact Bool.noConfusion hs) | (rw [Sem.run.eq_def];simp only [hc,hf];first | rfl | simp)
theorem run_storeCells:∀ (vs:List Value) (arr:Array Value) (T:TypeId) (w:World) (b off i:Nat),w.heap[b]?=some (.cells arr T (0,0))→vs.all scal=true→off + i + vs.length≤arr.size→
 ∃ w' arr',(storeCells ⟨b,off,none⟩ vs i).run P w=.ok () w'∧w'.heap[b]?=some (.cells arr' T (0,0))∧arr'.size=arr.size∧arr'.toList=ovw arr.toList (off + i) vs∧w'.heap.size=w.heap.size∧(∀ c,c≠b→w'.heap[c]?=w.heap[c]?)∧w'.os=w.os∧w'.tape=w.tape∧w'.output=w.output
 | [],arr,T,w,b,off,i,h,_,hl=>⟨w,arr,by simp [storeCells],h,rfl,by simp [ovw],rfl,fun _ _=>rfl,rfl,rfl,rfl⟩
 | v :: vs,arr,T,w,b,off,i,h,hs,hl=>by
   rw [List.all_cons,Bool.and_eq_true] at hs;rw [List.length_cons] at hl;have ha:(⟨b,off,none⟩:Addr).add i=⟨b,off + i,none⟩:=by unfold Addr.add;by_cases hi:i=0 <;> simp [hi]
   have hc:w.cell? ⟨b,off + i,none⟩=some (arr[off + i]'(by omega)):=by simp [World.cell?,h,show off + i < arr.size by omega]
   have hf:w.frozen? ⟨b,off + i,none⟩=false:=by simp [World.frozen?,h]
   have hb:b < w.heap.size:=(Array.getElem?_eq_some_iff.1 h).1;have hn:(w.setCell ⟨b,off + i,none⟩ v).heap[b]?=some (.cells (arr.setIfInBounds (off + i) v) T (0,0)):=by
    simp [World.setCell,Array.getElem?_modify,h]
   obtain ⟨w',arr',h1,h2,h3,h4,h5,h6,h7⟩:=run_storeCells vs (arr.setIfInBounds (off + i) v) T (w.setCell ⟨b,off + i,none⟩ v) b off (i + 1) hn hs.2 (by simp;omega);refine ⟨w',arr',?_,h2,by simpa using h3,?_,by simpa [World.setCell] using h5,fun c hc=>(h6 c hc).trans (by simp [World.setCell,Array.getElem?_modify,Ne.symm hc]),h7⟩
   ·simp only [storeCells,Sem.run_bind,ha,run_store hs.1 hc hf,Result.andThen_ok,h1]
   ·rw [h4,Array.toList_setIfInBounds,← ovw_cons _ _ _ _ (by simpa using (show off + i < arr.size by omega))];rfl
def stR (k ver off s nx:Nat) (fz:List Nat) (new:List SV):Option Row→Rs
 | some r=>⟨r.ver=ver∧off + new.length≤r.cs.length∧new.length=k∧0 < k∧new.all flat=true∧fz.contains s=false,.v undef,[],some (s,⟨r.ver,r.T,r.k,ovw r.cs off new⟩),nx⟩
 | none=>bad nx
def stV (k:Nat) (H:Nat→Option Row) (fz:List Nat) (nx:Nat):SV→Option (List SV)→Rs
 | .ptr s v o,some new=>stR k v o s nx fz new (H s)
 | _,_=>bad nx
theorem e_st {T:Nat} {x y:Operand} {s t:SV} (ho:o.op=.store T x y) (h:holds g w s (ρ x)) (hy:holds g w t (ρ y)) (hr:∀ u r,H u=some r→(∃ r',(stV (szT P T) H fz nx s (cellsO t)).wr=some (u,r'))→rowIn g w r∧(fz.contains u=false→g.ka r.ver≠0→¬ g.Z (g.mu r.ver)))
 (hp:(stV (szT P T) H fz nx s (cellsO t)).p):Eff P o ρ g w H nx fz (stV (szT P T) H fz nx s (cellsO t)):=by
 cases s with
 | ptr s ver off=>
   cases hc:cellsO t with
   | none=>rw [hc] at hp;exact hp.elim
   | some new=>
     rw [hc] at hp hr;cases hH:H s with
     | none=>simp only [stV,hH] at hp;exact hp.elim
     | some r=>
       simp only [stV,hH,stR] at hp hr ⊢;obtain ⟨hv,hl,hk,h0,hfl,hz⟩:=hp;obtain ⟨hrow,hz'⟩:=hr s r hH ⟨_,rfl⟩;obtain ⟨hka,arr,h1,h2,h3,h4⟩:=hrow.arr (by omega);have hz':=hz' hz hka;have ha:=hrow.1;obtain ⟨_,e⟩:=h;subst hv;have hn:=cellsO_holds hc hy;have hnl:=hn.len;obtain ⟨w',arr',k1,k2,k3,k4,k5,k6,k7⟩:=run_storeCells (P:=P) (ρ y).cells.toList arr r.T w (g.mu r.ver) off 0 h1 (flats_scal hfl hn) (by omega);have hzz:∀ b,g.Z b→w'.heap[b]?=w.heap[b]?:=fun b hb=>k6 b fun e=>hz' (e ▸ hb)
       refine ⟨undef,w',g,.inr ⟨?_,rfl⟩,rfl,⟨.refl g,rfl,fun _ h=>.inl h,by omega,fun b hb hB=>k6 b fun e=>hB ⟨s,_,r,rfl,hH,hka,hz,e⟩,k7⟩,fun h=>(by cases h),fun u r' e'=>?_⟩
       ·simp only [execOp,ho,Instr.storeAt,e,Instr.sureAddr,Sem.run_bind,Sem.run_pure,Result.andThen_ok,storeVar,run_sizeOf (P:=P) (T:=T) rfl (by omega)]
        have:¬ (ρ y).cells.size≠szT P T:=by rw [← hk,hnl];simp
        simp only [this,if_false,Sem.run_bind,Sem.run_pure,Result.andThen_ok,k1]
       ·simp only [Option.some.injEq,Prod.mk.injEq] at e'
        obtain ⟨rfl,rfl⟩:=e';refine ⟨⟨ha,.inr ⟨arr',k2,k3.trans h2,by rw [ovw_len hl,k3];exact h3,?_⟩⟩,fun _=>.inr ⟨r,hH,hka,rfl⟩⟩;simp only [ovw_len hl];rw [k4,Nat.add_zero];have:=(h4.mono (.refl g) hzz).ovw (hn.mono (.refl g) hzz) off;have e2:ovw (arr.toList.take r.cs.length) off (ρ y).cells.toList=(ovw arr.toList off (ρ y).cells.toList).take r.cs.length:=by
         unfold ovw;rw [hnl] at hl;rw [List.take_append,List.take_append,List.take_take,Nat.min_eq_left (by omega)];have:(arr.toList.take off).length=off:=by rw [List.length_take];simp;omega
         rw [List.length_append,this,List.take_take,Nat.min_eq_right (by omega),List.take_of_length_le (l:=(ρ y).cells.toList) (by omega),List.drop_take]
        rw [e2] at this;exact this
 | _=>cases hc:cellsO t <;> rw [hc] at hp <;> exact hp.elim
end
structure Src where
 m:Nat
 k:Nat
 cs:List SV
 rd:List Nat
 p:Prop
def srR (s v m k:Nat):Option Row→Src
 | some r=>⟨m,k,r.cs.take (m * k),[s],r.ver=v∧m * k≤r.cs.length⟩
 | none=>⟨0,0,[],[],False⟩
def srW (k0:Nat):Value→Src
 | .slice none 0 0=>⟨0,k0,[],[],True⟩
 | .string s=>⟨s.size,1,s.data.toList.map fun b=>.v (.int .u8 b.toNat),[],True⟩
 | _=>⟨0,0,[],[],False⟩
def srV (k0:Nat) (H:Nat→Option Row):SV→Src
 | .sl m k cs=>⟨m,k,cs,[],True⟩
 | .own s v m k=>srR s v m k (H s)
 | .v x=>srW k0 x
 | _=>⟨0,0,[],[],False⟩
def byT (P:Program) (T:TypeId):Nat:=match (typeInfo T).run P default with | .ok i _=>i.bytes | _=>0
def inT:Option TypeDesc→Bool
 | some (.slice _) | some .string=>false
 | _=>true
def elT:Option TypeDesc→Option Nat
 | some (.slice e)=>some e
 | _=>none
def okT (P:Program) (e k:Nat):Prop:=szT P e=k∧0 < k∧(zcT P e).map (·.cells.size)=some k
def apR (P:Program) (ver n k s nx:Nat) (fz:List Nat) (e:Nat) (S:Src):Option Row→Rs
 | some r=>⟨r.ver=ver∧r.cs.length=n * k∧fz.contains s=false∧r.T=e∧r.k=k∧okT P e k∧S.k=k∧S.p∧S.cs.all flat=true∧(n + S.m) * byT P e≤140737488355328∧n + S.m≤140737488355328,.own s nx (n + S.m) k,s :: S.rd,some (s,⟨nx,e,k,r.cs ++ S.cs⟩),nx + 1⟩
 | none=>bad nx
def apN (P:Program) (d k nx:Nat) (e:Nat) (S:Src):Rs:=
 ⟨okT P e k∧S.k=k∧S.p∧S.cs.all flat=true∧S.m * byT P e≤140737488355328∧S.m≤140737488355328,.own d nx S.m k,S.rd,some (d,⟨nx,e,k,S.cs⟩),nx + 1⟩
section
variable {P:Program} {g:Cx} {w:World} {ρ:Operand→Value} {o:Oper} {H:Nat→Option Row} {nx:Nat} {fz:List Nat}
theorem srV_ok {k0:Nat} {s:SV} {v:Value} (h:holds g w s v) (hp:(srV k0 H s).p) (hk:(srV k0 H s).k=k0) (hr:∀ u ∈ (srV k0 H s).rd,∀ r,H u=some r→rowIn g w r):
 ∃ news:List Value,agL g w (srV k0 H s).cs news∧news.length=(srV k0 H s).m * k0∧∀ W:World,W.heap=w.heap→(Builtin.lenOf v).run P W=.ok (srV k0 H s).m W∧(Builtin.firstCells k0 (srV k0 H s).m v).run P W=.ok news.toArray W:=by
 have cell:∀ (W:World) b o,W.heap=w.heap→W.cell? ⟨b,o,none⟩=w.cell? ⟨b,o,none⟩:=fun W b o e=>by simp [World.cell?,e]
 have key:∀ (m:Nat) (b off c:Nat) (vs:List Value),vs.length=m * k0→(∀ i x,vs[i]?=some x→w.cell? ⟨b,off + i,none⟩=some x)→∀ W:World,W.heap=w.heap→(Builtin.lenOf (.slice (some ⟨b,off,none⟩) m c)).run P W=.ok m W∧(Builtin.firstCells k0 m (.slice (some ⟨b,off,none⟩) m c)).run P W=.ok vs.toArray W:=fun m b off c vs hl hc W e=>
  ⟨by simp [Builtin.lenOf],run_firstCells_some W k0 m _ _ _ vs hl fun j x hj=>by
   have:(⟨b,off,none⟩:Addr).add j=⟨b,off + j,none⟩:=by unfold Addr.add;by_cases h:j=0 <;> simp [h]
   rw [this,cell W b _ e];exact hc j x hj⟩
 have nil:∀ W:World,(Builtin.lenOf (.slice none 0 0)).run P W=.ok 0 W∧(Builtin.firstCells k0 0 (.slice none 0 0)).run P W=.ok #[] W:=fun W=>⟨by simp [Builtin.lenOf],run_firstCells_none ..⟩
 cases s with
 | sl m k cs=>
   have hk:k=k0:=hk;subst hk;obtain ⟨a,c,e,hn,hl,hc⟩:=h;subst e;rcases hc with hc | ⟨b,off,rfl,hz,hc⟩
   ·obtain rfl:=List.length_eq_zero_iff.1 hc
    refine ⟨[],trivial,by show 0=m * k;simpa using hl,fun W e=>⟨by simp [Builtin.lenOf,srV],?_⟩⟩;have hm:m * k=0:=by simpa using hl.symm
    cases a with
    | none=>exact run_firstCells_none ..
    | some a=>exact run_firstCells_some W k m a m c [] (by simp [hm]) (by simp)
   ·obtain ⟨vs,h1,h2⟩:=hc.vals
    have hvl:=h1.len;exact ⟨vs,h1.up,by rw [← hvl];exact hl,key m b off c vs (by omega) fun i x e=>by
     obtain ⟨y,e1,e2⟩:=h2 i (by rw [hvl];exact (List.getElem?_eq_some_iff.1 e).1);rw [e1] at e;cases e;exact e2⟩
 | own s ver m k=>
   cases hH:H s with
   | none=>simp only [srV,hH] at hp;exact hp.elim
   | some r=>
     simp only [srV,hH,srR] at hp hk hr ⊢;subst hk;obtain ⟨hv,hl⟩:=hp;subst hv;obtain ⟨ha,hn,e⟩:=h;have hrow:=hr s (by simp) r hH;by_cases h0:0 < m * k
     ·obtain ⟨hka,arr,h1,h2,h3,h4⟩:=hrow.arr (by omega)
      have e:=e.resolve_right fun e=>hka e.1
      subst e;refine ⟨(arr.toList.take r.cs.length).take (m * k),h4.take _,by rw [List.length_take,List.length_take];simp;omega,key m _ 0 _ _ (by rw [List.length_take,List.length_take];simp;omega) fun i x e=>?_⟩;have hi:=(List.getElem?_eq_some_iff.1 e).1;rw [List.length_take,List.length_take] at hi;rw [List.getElem?_take_of_lt (by omega),List.getElem?_take_of_lt (by omega)] at e;simpa [World.cell?,h1] using e
     ·have h0:m * k=0:=by omega
      rw [h0,List.take_zero];refine ⟨[],trivial,by simp [h0],fun W e'=>?_⟩;rcases e with e | ⟨e0,e⟩
      ·subst e
       exact ⟨by simp [Builtin.lenOf],run_firstCells_some W k m _ m _ [] (by simp [h0]) (by simp)⟩
      ·subst e
       obtain rfl:m=0:=by omega
       exact nil W
 | v x=>
   have h:v=x:=h;subst h;have hp:(srW k0 v).p:=hp;have hk:(srW k0 v).k=k0:=hk
   show ∃ news:List Value,agL g w (srW k0 v).cs news∧news.length=(srW k0 v).m * k0∧∀ W:World,W.heap=w.heap→(Builtin.lenOf v).run P W=.ok (srW k0 v).m W∧(Builtin.firstCells k0 (srW k0 v).m v).run P W=.ok news.toArray W
   unfold srW at hp hk ⊢
   split at hp
   ·exact ⟨[],trivial,by simp,fun W _=>nil W⟩
   ·rename_i s _ _
    have hk:1=k0:=hk;subst hk;refine ⟨s.data.toList.map fun b=>.int .u8 b.toNat,?_,by rw [List.length_map,Nat.mul_one,Array.length_toList];rfl,fun W _=>⟨by simp [Builtin.lenOf],?_⟩⟩
    ·rw [show (s.data.toList.map fun b=>SV.v (.int .u8 b.toNat))=(s.data.toList.map fun b=>Value.int .u8 b.toNat).map .v by simp]
     exact agL.ofv _
    ·have:s.extract 0 s.size=s:=by simp
     simp [Builtin.firstCells,this];rw [← Array.toList_inj];simp
   ·exact hp.elim
 | _=>exact hp.elim
theorem okT_run {e k:Nat} (h:okT P e k):∃ (i:TypeInfo) (z:Value),P.info? e=some i∧i.size=k∧i.zero=some z∧z.cells.size=k∧i.bytes=byT P e:=by
 obtain ⟨h1,h0,h2⟩:=h;unfold szT sizeOf at h1;unfold zcT zeroValue at h2;unfold byT;unfold typeInfo at *;simp only [Sem.run_bind,run_program,Result.andThen_ok] at *;cases hi:P.info? e with
 | none=>simp [hi,stuck] at h1;omega
 | some i=>
   simp [hi] at h1 h2 ⊢;cases hz:i.zero with
   | none=>simp [hz,unsupported] at h2
   | some z=>exact ⟨h1,z,rfl,by simpa [hz] using h2⟩
theorem run_int {T:TypeId} (h:inT (P.underlying T)=false):(∃ e,∀ W,(underlying T).run P W=.ok (.slice e) W)∨∀ W,(underlying T).run P W=.ok .string W:=by
 simp only [run_und];cases hu:P.underlying T with
 | none=>rw [hu] at h;cases h
 | some d=>rw [hu] at h;cases d <;> first | exact .inl ⟨_,fun _=>rfl⟩ | exact .inr fun _=>rfl | cases h
theorem run_ap {T T2 ty e k n c m:Nat} {base:Option Addr} {y:Value} {news olds:List Value} (hT:P.underlying T=some (.slice e)) (h2:inT (P.underlying T2)=false) (he:okT P e k) (hb:(n + m) * byT P e≤140737488355328) (hnm:n + m≤140737488355328)
 (hy:∀ W:World,W.heap=w.heap→(Builtin.lenOf y).run P W=.ok m W∧(Builtin.firstCells k m y).run P W=.ok news.toArray W) (ho:∀ W:World,W.heap=w.heap→(Builtin.firstCells k n (.slice base n c)).run P W=.ok olds.toArray W):
 (n + m≤c→(Builtin.append_ #[T,T2] ty #[.slice base n c,y]).run P w=((match base with | some a=>storeCells (a.add (n * k)) news | none=>pure ()).run P w).andThen fun _ w'=>.ok (.slice base (n + m) c) w')∧
 (c < n + m→∃ (C:Nat) (z:Value),(n + m≤C∧C≤9223372036854775807)∧z.cells.size=k∧(Builtin.append_ #[T,T2] ty #[.slice base n c,y]).run P w=.ok (.slice (some ⟨w.heap.size,0,none⟩) (n + m) C) (w.drew.alloc (.cells (olds.toArray ++ news.toArray ++ Builtin.zeroCells z.cells (C - (n + m))) e))):=by
 obtain ⟨i,z,h1,h3,h4,h5,h6⟩:=okT_run he;have hd:=run_int h2;have hu:∀ W:World,(underlying T).run P W=.ok (.slice e) W:=fun W=>by rw [run_und,hT]
 have hsz:∀ W:World,(sizeOf e).run P W=.ok k W:=run_sizeOf he.1 (by have:=he.2.1;omega);have hzero:∀ W:World,(zeroValue e).run P W=.ok z W:=fun W=>by simp [zeroValue,typeInfo,h1,h4]
 have hinfo:∀ W:World,(typeInfo e).run P W=.ok i W:=fun W=>by simp [typeInfo,h1]
 refine ⟨fun hc=>?_,fun hc=>?_⟩
 ·have e2:=(hy w rfl).2
  have e1:=(hy w rfl).1;rcases hd with ⟨e',hd⟩ | hd <;> cases base <;> simp [Builtin.append_,hu,hsz,hd,e1,e2,hc]
 ·have hne:¬ n + m≤c:=by omega
  have h63:¬ ((((n + m:Nat):Int) > IntKind.i64.max)∧((false=true)∨i.bytes=0)):=fun h=>by
   have:=h.1;simp [IntKind.max,IntKind.bits,IntKind.signed] at this;omega
  have h48:¬ (Builtin.nextslicecap (n + m) c * i.bytes > 2 ^ 48):=by
   have:=growslice_fits (need:=n + m) (old:=c) (bytes:=i.bytes) hc (by rw [h6];exact hb);omega
  refine ⟨grownCap w (n + m) c e,z,?_,h5,?_⟩
  ·exact ⟨Nat.le_add_right ..,by have:=grownCap_le_maxLen w (n + m) c e (by unfold maxLen;omega);unfold maxLen at this;omega⟩
  ·have e1:=(hy w rfl).1
   have e2:=(hy w.drew rfl).2;have e3:=ho w.drew rfl;have h48':¬ (281474976710656 < Builtin.nextslicecap (n + m) c * i.bytes):=by omega
   have h63':¬ (9223372036854775807 < ((n:Int) + (m:Int))∧i.bytes=0):=fun h=>by omega
   have ea:∀ x:Array Value,olds.toArray ++ (news.toArray ++ x)=(olds ++ news).toArray ++ x:=fun x=>by simp [← Array.append_assoc]
   rcases hd with ⟨e',hd⟩ | hd <;> simp [Builtin.append_,hu,hsz,hd,e1,e2,e3,hne,hinfo,hzero,h48',h63',Question.forced,newRow,grownCap] <;> rw [ea]
theorem zeroCells_size (z:Array Value) (n:Nat):(Builtin.zeroCells z n).size=n * z.size:=by simp [Builtin.zeroCells]
theorem ap_core {T T2 ty e k n c m b s:Nat} {base:Option Addr} {y:Value} {news olds:List Value} {cs ds:List SV} (hn:¬ g.A nx) (hz:∀ b,g.Z b→b < w.heap.size) (hT:P.underlying T=some (.slice e)) (h2:inT (P.underlying T2)=false) (he:okT P e k) (hb:(n + m) * byT P e≤140737488355328) (hnm:n + m≤140737488355328)
 (hy:∀ W:World,W.heap=w.heap→(Builtin.lenOf y).run P W=.ok m W∧(Builtin.firstCells k m y).run P W=.ok news.toArray W) (ho:∀ W:World,W.heap=w.heap→(Builtin.firstCells k n (.slice base n c)).run P W=.ok olds.toArray W)
 (hcs:agL g w cs olds) (hds:agL g w ds news) (hl:olds.length=n * k) (hm:news.length=m * k) (hnc:n≤c∧c≤9223372036854775807)
 (hin:(base=none∧c=0)∨(c=0∧base=some ⟨b,0,none⟩)∨(c≠0∧base=some ⟨b,0,none⟩∧¬ g.Z b∧∃ arr:Array Value,w.heap[b]?=some (.cells arr e (0,0))∧arr.size=c * k∧arr.toList.take (n * k)=olds)) (hsc:news.all scal=true):
 ∃ v w' g',(Builtin.append_ #[T,T2] ty #[.slice base n c,y]).run P w=.ok v w'∧holds g' w' (.own s nx (n + m) k) v∧Chg g g' w w' (fun x=>c≠0∧x=b) nx∧rowIn g' w' ⟨nx,e,k,cs ++ ds⟩∧(g'.ka nx≠0→w.heap.size≤g'.mu nx∨(c≠0∧g'.mu nx=b)):=by
 obtain ⟨r1,r2⟩:=run_ap (P:=P) (ty:=ty) hT h2 he hb hnm hy ho;have hk:=he.2.1;rcases Nat.lt_or_ge c (n + m) with hc | hc
 ·obtain ⟨C,z,hC,hzs,hr⟩:=r2 hc
  have hsz:(olds.toArray ++ news.toArray ++ Builtin.zeroCells z.cells (C - (n + m))).size=C * k:=by
   simp only [Array.size_append,List.size_toArray,zeroCells_size,hzs,hl,hm];rw [← Nat.add_mul,← Nat.add_mul,show n + m + (C - (n + m))=C by omega]
  have hlen:(cs ++ ds).length=olds.length + news.length:=by rw [List.length_append,hcs.len,hds.len]
  have hag:agL g w.drew (cs ++ ds) ((olds.toArray ++ news.toArray ++ Builtin.zeroCells z.cells (C - (n + m))).toList.take (cs ++ ds).length):=by
   rw [hlen];have:(olds.toArray ++ news.toArray ++ Builtin.zeroCells z.cells (C - (n + m))).toList.take (olds.length + news.length)=olds ++ news:=by
    simp only [Array.toList_append];rw [List.take_append_of_le_length (by simp),List.take_of_length_le (by simp)]
   rw [this];exact @agL.mono g g w w.drew (.refl g) (fun _ _=>rfl) _ _ (hcs.append hds)
  obtain ⟨g',w',e1,e2,h1,h2,h3,h4,h5⟩:=new_row (w:=w.drew) (T:=e) (cs:=cs ++ ds) hn hz hsz (by rw [hsz,hlen,hl,hm,← Nat.add_mul];exact Nat.mul_le_mul_right k hC.1) hag;refine ⟨_,w',g',by rw [e2];exact hr,⟨h3,by rw [h5];exact hC,.inl (by rw [h4,h5];rfl)⟩,?_,h2,fun _=>.inl (by rw [h4];exact Nat.le_refl _)⟩;have:=h1 (fun x=>c≠0∧x=b);exact ⟨this.le,this.z,this.ver,this.size,this.blk,this.io⟩
 ·have hr:=r1 hc
  rcases hin with ⟨rfl,rfl⟩ | hin
  ·obtain ⟨rfl,rfl⟩:n=0∧m=0:=by omega
   have e1:olds=[]:=List.length_eq_zero_iff.1 (by omega);have e2:news=[]:=List.length_eq_zero_iff.1 (by omega);have e3:cs=[]:=List.length_eq_zero_iff.1 (by rw [hcs.len,e1];rfl);have e4:ds=[]:=List.length_eq_zero_iff.1 (by rw [hds.len,e2];rfl);have hka:(g.add nx 0 0).ka nx=0:=by simp [Cx.add]
   refine ⟨.slice none 0 0,w,g.add nx 0 0,by simpa using hr,⟨.inr rfl,by omega,.inr ⟨hka,rfl⟩⟩,⟨Cx.le_add hn,rfl,fun u hu=>hu.imp id fun e=>⟨e,fun h=>absurd (e ▸ hka) h⟩,Nat.le_refl _,fun _ _ _=>rfl,rfl,rfl,rfl⟩,⟨.inr rfl,.inl ⟨hka,by rw [e3,e4];rfl⟩⟩,fun h=>absurd hka h⟩
  ·have key:base=some ⟨b,0,none⟩:=by rcases hin with h | h;exact h.2;exact h.2.1
   subst key;rcases Nat.eq_zero_or_pos c with hc0 | hc0
   ·subst hc0
    obtain ⟨rfl,rfl⟩:n=0∧m=0:=by omega
    have e1:olds=[]:=List.length_eq_zero_iff.1 (by omega);have e2:news=[]:=List.length_eq_zero_iff.1 (by omega);have e3:cs=[]:=List.length_eq_zero_iff.1 (by rw [hcs.len,e1];rfl);have e4:ds=[]:=List.length_eq_zero_iff.1 (by rw [hds.len,e2];rfl);have hka:(g.add nx b 0).ka nx=0:=by simp [Cx.add]
    refine ⟨.slice (some ⟨b,0,none⟩) 0 0,w,g.add nx b 0,by simpa [e2,storeCells] using hr,⟨.inr rfl,by omega,.inl (by simp [Cx.add])⟩,⟨Cx.le_add hn,rfl,fun u hu=>hu.imp id fun e=>⟨e,fun h=>absurd (e ▸ hka) h⟩,Nat.le_refl _,fun _ _ _=>rfl,rfl,rfl,rfl⟩,⟨.inr rfl,.inl ⟨hka,by rw [e3,e4];rfl⟩⟩,fun h=>absurd hka h⟩
   ·obtain ⟨_,_,hzb,arr,a1,a2,a3⟩:=hin.resolve_left fun h=>by omega
    have hfit:n * k + m * k≤c * k:=by rw [← Nat.add_mul];exact Nat.mul_le_mul_right k hc
    obtain ⟨w',arr',k1,k2,k3,k4,k5,k6,k7⟩:=run_storeCells (P:=P) news arr e w b (n * k) 0 a1 hsc (by omega);have ha:(⟨b,0,none⟩:Addr).add (n * k)=⟨b,n * k,none⟩:=by unfold Addr.add;by_cases h:n * k=0 <;> simp [h]
    have hzz:∀ x,g.Z x→w'.heap[x]?=w.heap[x]?:=fun x hx=>k6 x fun e=>hzb (e ▸ hx)
    have hlen:(cs ++ ds).length=n * k + m * k:=by rw [List.length_append,hcs.len,hds.len,hl,hm]
    refine ⟨.slice (some ⟨b,0,none⟩) (n + m) c,w',g.add nx b c,?_,⟨.inr rfl,by simpa [Cx.add] using And.intro hc hnc.2,.inl (by simp [Cx.add])⟩,⟨Cx.le_add hn,rfl,fun u hu=>hu.imp id fun e=>⟨e,fun _=>by subst e;simp [Cx.add];rw [k5];exact (Array.getElem?_eq_some_iff.1 a1).1⟩,by omega,fun x _ hB=>k6 x fun e=>hB ⟨by omega,e⟩,k7⟩,⟨.inr rfl,.inr ⟨arr',by simpa [Cx.add] using k2,by simpa [Cx.add] using k3.trans a2,by show (cs ++ ds).length≤_;rw [hlen,k3,a2];exact hfit,?_⟩⟩,fun _=>.inr ⟨by omega,by simp [Cx.add]⟩⟩
    ·rw [hr]
     simp only [ha,k1,Result.andThen_ok]
    ·show agL _ _ (cs ++ ds) (arr'.toList.take (cs ++ ds).length)
     have:arr'.toList.take (cs ++ ds).length=olds ++ news:=by
      rw [hlen,k4,Nat.add_zero];unfold ovw;rw [List.take_append_of_le_length (by simp [hm];omega),a3,List.take_of_length_le (by simp [hl,hm])]
     rw [this];exact (hcs.append hds).mono (Cx.le_add hn) hzz
theorem run_call_ap {T T2:TypeId} {x y:Operand} {v:Value} {w':World} (ho:o.op=.call { callee:=.builtin .append,args:=#[x,y],argTypes:=#[T,T2] }) (hr:(Builtin.append_ #[T,T2] o.type #[ρ x,ρ y]).run P w=.ok v w'):(execOp ρ o).run P w=.ok (.value v) w':=by
 simp only [execOp,ho,resolve,Sem.run_bind,Sem.run_pure,Result.andThen_ok,invoke,builtin,List.map_toArray,List.map_cons,List.map_nil,hr]
def apW (P:Program) (d nx:Nat) (H:Nat→Option Row) (y:SV) (e:Nat):Value→Rs
 | .slice none 0 0=>apN P d (szT P e) nx e (srV (szT P e) H y)
 | _=>bad nx
theorem e_apN {T T2 d e:Nat} {x y:Operand} {sy:SV} (ho:o.op=.call { callee:=.builtin .append,args:=#[x,y],argTypes:=#[T,T2] }) (hx:ρ x=.slice none 0 0) (hy:holds g w sy (ρ y)) (hn:¬ g.A nx) (hz:∀ b,g.Z b→b < w.heap.size) (hT:P.underlying T=some (.slice e)) (h2:inT (P.underlying T2)=false)
 (hr:∀ u ∈ (apN P d (szT P e) nx e (srV (szT P e) H sy)).rd,∀ r,H u=some r→rowIn g w r) (hp:(apN P d (szT P e) nx e (srV (szT P e) H sy)).p):Eff P o ρ g w H nx fz (apN P d (szT P e) nx e (srV (szT P e) H sy)):=by
 obtain ⟨p1,p2,p3,p4,p5,p6⟩:=hp;obtain ⟨news,h1,h3,h4⟩:=srV_ok (P:=P) hy p3 p2 hr;obtain ⟨v,w',g',e1,e2,e3,e4,e5⟩:=ap_core (P:=P) (ty:=o.type) (s:=d) (b:=0) (cs:=[]) (olds:=[]) (n:=0) (c:=0) (base:=none) hn hz hT h2 p1 (by simpa using p5) (by simpa using p6) h4 (fun W _=>run_firstCells_none ..) trivial h1 (by simp) h3 (by omega) (.inl ⟨rfl,rfl⟩) (flats_scal p4 h1);refine ⟨v,w',g',.inl (run_call_ap ho (by rw [hx];exact e1)),by simpa [apN] using e2,⟨e3.le,e3.z,e3.ver,e3.size,fun b hb hB=>e3.blk b hb fun h=>h.1 rfl,e3.io⟩,fun h=>(by cases h),fun s r' e=>?_⟩;simp only [apN,Option.some.injEq,Prod.mk.injEq] at e;obtain ⟨rfl,rfl⟩:=e;exact ⟨e4,fun h=>.inl ((e5 h).resolve_right fun h=>h.1 rfl)⟩
theorem e_apR {T T2 e ver n k s:Nat} {x y:Operand} {sy:SV} {r:Row} (ho:o.op=.call { callee:=.builtin .append,args:=#[x,y],argTypes:=#[T,T2] }) (hH:H s=some r) (hx:holds g w (.own s ver n k) (ρ x)) (hy:holds g w sy (ρ y)) (hn:¬ g.A nx) (hz:∀ b,g.Z b→b < w.heap.size) (hT:P.underlying T=some (.slice e)) (h2:inT (P.underlying T2)=false)
 (hr:∀ u ∈ (apR P ver n k s nx fz e (srV k H sy) (some r)).rd,∀ r,H u=some r→rowIn g w r) (hfz:fz.contains s=false→g.ka r.ver≠0→¬ g.Z (g.mu r.ver)) (hp:(apR P ver n k s nx fz e (srV k H sy) (some r)).p):Eff P o ρ g w H nx fz (apR P ver n k s nx fz e (srV k H sy) (some r)):=by
 obtain ⟨q1,q2,q3,q4,q5,p1,p2,p3,p4,p5,p6⟩:=hp;subst q1;have hrow:=hr s (by simp [apR]) r hH;obtain ⟨news,h1,h3,h4⟩:=srV_ok (P:=P) hy p3 p2 fun u hu=>hr u (by simp [apR,hu])
 obtain ⟨ha,hnk,hv⟩:=hx;have hold:∃ (base:Option Addr) (olds:List Value),ρ x=.slice base n (g.ka r.ver)∧agL g w r.cs olds∧olds.length=n * k∧(∀ W:World,W.heap=w.heap→(Builtin.firstCells k n (.slice base n (g.ka r.ver))).run P W=.ok olds.toArray W)∧((base=none∧g.ka r.ver=0)∨(g.ka r.ver=0∧base=some ⟨g.mu r.ver,0,none⟩)∨(g.ka r.ver≠0∧base=some ⟨g.mu r.ver,0,none⟩∧¬ g.Z (g.mu r.ver)∧∃ arr:Array Value,w.heap[g.mu r.ver]?=some (.cells arr e (0,0))∧arr.size=g.ka r.ver * k∧arr.toList.take (n * k)=olds)):=by
  by_cases hka:g.ka r.ver=0
  ·have hn0:n=0:=by omega
   subst hn0;have hc:r.cs=[]:=List.length_eq_zero_iff.1 (by omega);rw [hc,hka];rcases hv with hv | hv
   ·exact ⟨_,[],by rw [hv,hka],trivial,by simp,fun W _=>run_firstCells_some W k 0 _ 0 _ [] (by simp) (by simp),.inr (.inl ⟨rfl,rfl⟩)⟩
   ·exact ⟨none,[],hv.2,trivial,by simp,fun W _=>run_firstCells_none ..,.inl ⟨rfl,rfl⟩⟩
  ·have hv:=hv.resolve_right fun h=>hka h.1
   rcases hrow.2 with h | ⟨arr,a1,a2,a3,a4⟩
   ·exact absurd h.1 hka
   ·rw [q2] at a3 a4
    have hlen:(arr.toList.take (n * k)).length=n * k:=by rw [List.length_take];simp;omega
    refine ⟨_,arr.toList.take (n * k),hv,a4,hlen,fun W e'=>run_firstCells_some W k n _ n _ _ hlen fun j x hj=>?_,.inr (.inr ⟨hka,rfl,hfz q3 hka,arr,by rw [← q4];exact a1,by rw [← q5];exact a2,rfl⟩)⟩;have hj1:j < n * k:=by have:=(List.getElem?_eq_some_iff.1 hj).1;omega
    rw [List.getElem?_take_of_lt hj1] at hj;have:(⟨g.mu r.ver,0,none⟩:Addr).add j=⟨g.mu r.ver,j,none⟩:=by unfold Addr.add;by_cases h:j=0 <;> simp [h]
    rw [this];simpa [World.cell?,e',a1] using hj
 obtain ⟨base,olds,o1,o2,o3,o4,o5⟩:=hold;obtain ⟨v,w',g',e1,e2,e3,e4,e5⟩:=ap_core (P:=P) (ty:=o.type) (s:=s) (b:=g.mu r.ver) hn hz hT h2 p1 p5 p6 h4 o4 o2 h1 o3 h3 hnk o5 (flats_scal p4 h1);refine ⟨v,w',g',.inl (run_call_ap ho (by rw [o1];exact e1)),e2,⟨e3.le,e3.z,e3.ver,e3.size,fun b hb hB=>e3.blk b hb fun h=>hB ⟨s,_,r,rfl,hH,h.1,q3,h.2⟩,e3.io⟩,fun h=>(by cases h),fun u r' e'=>?_⟩;simp only [apR,Option.some.injEq,Prod.mk.injEq] at e';obtain ⟨rfl,rfl⟩:=e';exact ⟨e4,fun h=>(e5 h).imp id fun h=>⟨r,hH,h.1,h.2⟩⟩
end
def fillS (place:Nat→Option (Nat × Nat)) (cs:List SV):List (Nat × Option (List SV))→Option (List SV)
 | []=>some cs
 | (i,some new) :: rest=>match place i with
   | some (off,size)=>if new.length=size∧off + size≤cs.length then fillS place (ovw cs off new) rest else none
   | none=>none
 | (_,none) :: _=>none
theorem fold_set:∀ (l:List Value) (k off:Nat) (arr:Array Value),off + k + l.length≤arr.size→((l.zipIdx k).foldl (fun cs (c,j)=>cs.setIfInBounds (off + j) c) arr).toList=ovw arr.toList (off + k) l
 | [],k,off,arr,_=>by simp [ovw]
 | x :: l,k,off,arr,h=>by
   rw [List.length_cons] at h;rw [List.zipIdx_cons,List.foldl_cons,fold_set l (k + 1) off _ (by simp;omega),Array.toList_setIfInBounds];exact ovw_cons _ _ _ _ (by simp;omega)
section
variable {P:Program} {g:Cx} {w:World} {ρ:Operand→Value} {o:Oper} {H:Nat→Option Row} {nx:Nat} {fz:List Nat}
theorem fillS_ok {place:Nat→Option (Nat × Nat)}:∀ {parts:List (Nat × Value)} {ps:List (Nat × SV)} {cs cs':List SV} {arr:Array Value},ps.map (·.1)=parts.map (·.1)→agL g w (ps.map (·.2)) (parts.map (·.2))→agL g w cs arr.toList→fillS place cs (ps.map fun p=>(p.1,cellsO p.2))=some cs'→∃ arr',Instr.fill place arr parts=some arr'∧agL g w cs' arr'.toList∧cs'.length=cs.length
 | [],[],cs,cs',arr,_,_,h,e=>by cases e;exact ⟨arr,rfl,h,rfl⟩
 | (i,v) :: parts,(j,s) :: ps,cs,cs',arr,e1,h1,h,e=>by
   simp only [List.map_cons,List.cons.injEq] at e1;obtain ⟨e1,e2⟩:=e1;have e1:j=i:=e1;subst e1;obtain ⟨hv,h1⟩:=h1;have hv:holds g w s v:=hv;simp only [List.map_cons] at e;cases hc:cellsO s with
   | none=>rw [hc] at e;cases e
   | some new=>
     rw [hc] at e;simp only [fillS] at e;cases hp:place j with
     | none=>rw [hp] at e;cases e
     | some q=>
       obtain ⟨off,size⟩:=q;rw [hp] at e;simp only at e;by_cases hq:new.length=size∧off + size≤cs.length
       ·rw [if_pos hq] at e
        have hn:=cellsO_holds hc hv;have hl:=hn.len;have hal:=h.len;have hsz:v.cells.size=size:=by rw [← hq.1,hl];simp
        have hf:((v.cells.zipIdx.foldl (fun cs (c,j)=>cs.setIfInBounds (off + j) c) arr)).toList=ovw arr.toList off v.cells.toList:=by
         rw [← Array.foldl_toList,Array.toList_zipIdx];exact fold_set _ 0 off arr (by simp at hal ⊢;omega)
        obtain ⟨arr',k1,k2,k3⟩:=fillS_ok (parts:=parts) (ps:=ps) (arr:=v.cells.zipIdx.foldl (fun cs (c,j)=>cs.setIfInBounds (off + j) c) arr) e2 h1 (by rw [hf];exact h.ovw hn off) e;refine ⟨arr',?_,k2,by rw [k3,ovw_len (by omega)]⟩;have hno:¬ (v.cells.size≠size)∧¬ (off + v.cells.size > arr.size):=by simp at hal;omega
        simp only [Instr.fill,hp];rw [if_neg (by simp;omega)];exact k1
       ·rw [if_neg hq] at e;cases e
 | [],_ :: _,_,_,_,e1,_,_,_=>by simp at e1
 | _ :: _,[],_,_,_,e1,_,_,_=>by simp at e1
def blS (P:Program) (fs:Array Field) (ps:List (Nat × Option (List SV))) (nx:Nat):Option Value→Rs
 | some z=>match fillS (fun i=>(fs[i]?).map fun f=>(f.offset,szT P f.type)) (z.cells.toList.map .v) ps with
   | some cs=>pu (fs.toList.all (fun f=>decide (szT P f.type≠0))=true) (.agg cs) nx
   | none=>bad nx
 | none=>bad nx
def blV (P:Program) (t:TypeId) (ps:List (Nat × Option (List SV))) (nx:Nat):Option TypeDesc→Rs
 | some (.struct fs)=>blS P fs ps nx (zcT P t)
 | some (.array n e)=>match zcT P t with
   | some z=>match fillS (fun i=>some (i * szT P e,szT P e)) (z.cells.toList.map .v) ps with
     | some cs=>pu (szT P e≠0) (.agg cs) nx
     | none=>bad nx
   | none=>bad nx
 | _=>bad nx
theorem run_places:∀ (fs:List Field),(∀ f ∈ fs,szT P f.type≠0)→(fs.mapM (fun f=>(do pure (f.offset,← sizeOf f.type):Sem (Nat × Nat)))).run P w=.ok (fs.map fun f=>(f.offset,szT P f.type)) w
 | [],_=>by simp
 | f :: fs,h=>by
   have ih:=run_places fs fun f hf=>h f (List.mem_cons_of_mem _ hf)
   rw [List.mapM_cons];simp only [Sem.run_bind,run_sizeOf (P:=P) rfl (h f (List.mem_cons_self ..)),Result.andThen_ok,Sem.run_pure,ih]
   rfl
theorem q_bl {t:TypeId} {parts:Array (Nat × Operand)} {ps:List (Nat × SV)} (ho:o.op=.build t parts) (h1:ps.map (·.1)=parts.toList.map (·.1)) (h2:agL g w (ps.map (·.2)) (parts.toList.map fun p=>ρ p.2)) (hp:(blV P t (ps.map fun p=>(p.1,cellsO p.2)) nx (P.underlying t)).p):Quiet P o ρ g w (blV P t (ps.map fun p=>(p.1,cellsO p.2)) nx (P.underlying t)).r:=by
 have e1:ps.map (·.1)=((parts.map fun x=>(x.1,ρ x.2)).toList).map (·.1):=by rw [h1];simp
 have e2:agL g w (ps.map (·.2)) (((parts.map fun x=>(x.1,ρ x.2)).toList).map (·.2)):=by
  have:((parts.map fun x=>(x.1,ρ x.2)).toList).map (·.2)=parts.toList.map fun p=>ρ p.2:=by simp
  rw [this];exact h2
 cases hu:P.underlying t with
 | none=>rw [hu] at hp;exact hp.elim
 | some d=>
   rw [hu] at hp;cases d with
   | struct fs=>
     simp only [blV,blS] at hp ⊢;cases hz:zcT P t with
     | none=>rw [hz] at hp;exact hp.elim
     | some z=>
       rw [hz] at hp;simp only at hp ⊢;cases hf:fillS (fun i=>(fs[i]?).map fun f=>(f.offset,szT P f.type)) (z.cells.toList.map .v) (ps.map fun p=>(p.1,cellsO p.2)) with
       | none=>rw [hf] at hp;exact hp.elim
       | some cs=>
         rw [hf] at hp;have hp:fs.toList.all (fun f=>decide (szT P f.type≠0))=true:=hp;obtain ⟨arr',k1,k2,_⟩:=fillS_ok (g:=g) (w:=w) (arr:=z.cells) e1 e2 (agL.ofv _) hf;have hpl:=run_places (P:=P) (w:=w) fs.toList fun f hf=>by simpa using List.all_eq_true.1 hp f hf
         have hpl':(fs.mapM (fun f=>(do pure (f.offset,← sizeOf f.type):Sem (Nat × Nat)))).run P w=.ok (fs.map fun f=>(f.offset,szT P f.type)) w:=by
          rw [Array.mapM_eq_mapM_toList]
          show Sem.run P (List.toArray <$> _) w=_
          rw [map_eq_pure_bind,Sem.run_bind,hpl];simp only [Result.andThen_ok,Sem.run_pure];congr 1
          rw [← Array.toList_inj];simp
         refine .ok (v:=.agg arr') ?_ ⟨arr'.toList,by simp,k2⟩;have hplace:(fun i:Nat=>(fs.map fun f:Field=>(f.offset,szT P f.type))[i]?)=fun i:Nat=>(fs[i]?).map fun f:Field=>(f.offset,szT P f.type):=by funext i;simp
         simp only [execOp,ho,Instr.build,Sem.run_bind,run_zero hz,Result.andThen_ok,run_und,hu,hpl',hplace];rw [k1];simp
   | array n e=>
     simp only [blV] at hp ⊢;cases hz:zcT P t with
     | none=>rw [hz] at hp;exact hp.elim
     | some z=>
       rw [hz] at hp;simp only at hp ⊢;cases hf:fillS (fun i=>some (i * szT P e,szT P e)) (z.cells.toList.map .v) (ps.map fun p=>(p.1,cellsO p.2)) with
       | none=>rw [hf] at hp;exact hp.elim
       | some cs=>
         rw [hf] at hp;have hp:szT P e≠0:=hp;obtain ⟨arr',k1,k2,_⟩:=fillS_ok (g:=g) (w:=w) (arr:=z.cells) e1 e2 (agL.ofv _) hf;refine .ok (v:=.agg arr') ?_ ⟨arr'.toList,by simp,k2⟩;simp only [execOp,ho,Instr.build,Sem.run_bind,run_zero hz,Result.andThen_ok,run_und,hu,run_sizeOf (P:=P) rfl hp];rw [k1];simp
   | _=>exact hp.elim
def bsV (P:Program) (d nx len:Nat) (ps:List (Nat × Option (List SV))):Option TypeDesc→Rs
 | some (.slice e)=>match fillS (fun i=>some (i * szT P e,szT P e)) (List.replicate (len * szT P e) .any) ps with
   | some cs=>⟨szT P e≠0∧len * szT P e≤16777216∧zcT P e≠none,.own d nx len (szT P e),[],some (d,⟨nx,e,szT P e,cs⟩),nx + 1⟩
   | none=>bad nx
 | _=>bad nx
theorem agL_any:∀ (l:List Value),agL g w (List.replicate l.length .any) l
 | []=>trivial
 | _ :: l=>⟨trivial,agL_any l⟩
theorem e_bs {t len d:Nat} {parts:Array (Nat × Operand)} {ps:List (Nat × SV)} (ho:o.op=.buildSlice t len parts) (h1:ps.map (·.1)=parts.toList.map (·.1)) (h2:agL g w (ps.map (·.2)) (parts.toList.map fun p=>ρ p.2)) (hn:(bsV P d nx len (ps.map fun p=>(p.1,cellsO p.2)) (P.underlying t)).wr≠none→¬ g.A nx) (hz:∀ b,g.Z b→b < w.heap.size)
 (hp:(bsV P d nx len (ps.map fun p=>(p.1,cellsO p.2)) (P.underlying t)).p):Eff P o ρ g w H nx fz (bsV P d nx len (ps.map fun p=>(p.1,cellsO p.2)) (P.underlying t)):=by
 have e1:ps.map (·.1)=((parts.map fun x=>(x.1,ρ x.2)).toList).map (·.1):=by rw [h1];simp
 have e2:agL g w (ps.map (·.2)) (((parts.map fun x=>(x.1,ρ x.2)).toList).map (·.2)):=by
  have:((parts.map fun x=>(x.1,ρ x.2)).toList).map (·.2)=parts.toList.map fun p=>ρ p.2:=by simp
  rw [this];exact h2
 cases hu:P.underlying t with
 | none=>rw [hu] at hp;exact hp.elim
 | some u=>
   rw [hu] at hp;cases u with
   | slice e=>
     simp only [bsV] at hp ⊢;cases hf:fillS (fun i=>some (i * szT P e,szT P e)) (List.replicate (len * szT P e) .any) (ps.map fun p=>(p.1,cellsO p.2)) with
     | none=>rw [hf] at hp;exact hp.elim
     | some cs=>
       rw [hf] at hp;have hn:=hn (by rw [hu];simp [bsV,hf]);obtain ⟨k1,k2,k3⟩:=hp;obtain ⟨z,hzz⟩:=Option.ne_none_iff_exists'.1 k3;have key:∀ zero:Array Value,∃ arr',Instr.fill (fun i=>some (i * szT P e,szT P e)) ((Array.range (len * szT P e)).map (zero[· % zero.size]!)) (parts.map fun x=>(x.1,ρ x.2)).toList=some arr'∧agL g w cs arr'.toList∧cs.length=len * szT P e:=fun zero=>by
        have ha:agL g w (List.replicate (len * szT P e) .any) ((Array.range (len * szT P e)).map (zero[· % zero.size]!)).toList:=by
         have:=agL_any (g:=g) (w:=w) ((Array.range (len * szT P e)).map (zero[· % zero.size]!)).toList;rwa [show (((Array.range (len * szT P e)).map (zero[· % zero.size]!)).toList).length=len * szT P e by simp] at this
        obtain ⟨arr',a1,a2,a3⟩:=fillS_ok e1 e2 ha hf;exact ⟨arr',a1,a2,by simpa using a3⟩
       have hno:¬ (len * szT P e > 2 ^ 24):=by omega
       have hlen:len≤16777216:=Nat.le_trans (Nat.le_mul_of_pos_right len (Nat.pos_of_ne_zero k1)) k2;by_cases h0:len * szT P e=0
       ·obtain ⟨arr',a1,a2,a3⟩:=key #[]
        have al:=a2.len;refine eff_new (n:=len) (arr:=arr') (v:=.slice (some ⟨w.heap.size,0,none⟩) len len) hn hz (by simp at al;omega) (by simp at al;omega) (by rw [List.take_of_length_le (by omega)];exact a2) ?_ fun g' w' b1 b2 b3=>⟨b1,by omega,.inl (by rw [b2,b3])⟩
        simp only [execOp,ho,Instr.buildSlice,Sem.run_bind,run_und,hu,run_sizeOf (P:=P) rfl k1,Result.andThen_ok,show ¬ (0 > 2 ^ 24) by decide,if_false,h0,if_true,Sem.run_pure];rw [h0] at a1;rw [a1];simp [newRow]
       ·obtain ⟨arr',a1,a2,a3⟩:=key z.cells
        have al:=a2.len;refine eff_new (n:=len) (arr:=arr') (v:=.slice (some ⟨w.heap.size,0,none⟩) len len) hn hz (by simp at al;omega) (by simp at al;omega) (by rw [List.take_of_length_le (by omega)];exact a2) ?_ fun g' w' b1 b2 b3=>⟨b1,by omega,.inl (by rw [b2,b3])⟩
        simp only [execOp,ho,Instr.buildSlice,Sem.run_bind,run_und,hu,run_sizeOf (P:=P) rfl k1,Result.andThen_ok,hno,if_false,h0,run_zero hzz,Sem.run_pure];rw [a1];simp [newRow]
   | _=>exact hp.elim
end
def mmV (mx:Bool) (nx:Nat):SV→SV→Rs
 | .v (.int k a),.v (.int k' b)=>pu (k=k') (.v (.int k (if mx then max a b else min a b))) nx
 | _,_=>bad nx
def apD (P:Program) (d:Nat) (H:Nat→Option Row) (fz:List Nat) (nx:Nat) (y:SV):SV→Option Nat→Rs
 | .own s v n k,some e=>apR P v n k s nx fz e (srV k H y) (H s)
 | .v x,some e=>apW P d nx H y e x
 | _,_=>bad nx
def apB (P:Program) (d:Nat) (H:Nat→Option Row) (fz:List Nat) (nx:Nat) (y x:SV) (T:Option TypeDesc):Bool→Rs
 | true=>bad nx
 | false=>apD P d H fz nx y x (elT T)
def biC (P:Program) (d:Nat) (fz:List Nat) (H:Nat→Option Row) (nx:Nat) (e:Operand→SV):Builtin→List Operand→List TypeId→Rs
 | .len,[x],[T]=>lnV nx (e x) (P.underlying T)
 | .append,[x,y],[T,T2]=>apB P d H fz nx (e y) (e x) (P.underlying T) (inT (P.underlying T2))
 | .min,[x,y],_=>mmV false nx (e x) (e y)
 | .max,[x,y],_=>mmV true nx (e x) (e y)
 | _,_,_=>bad nx
def clC (P:Program) (d:Nat) (fz:List Nat) (H:Nat→Option Row) (nx:Nat) (e:Operand→SV) (args:List Operand) (ts:List TypeId):Callee→Rs
 | .builtin b=>biC P d fz H nx e b args ts
 | _=>bad nx
def byB:List SV→Option (List UInt8)
 | []=>some []
 | .v (.int .u8 n) :: l=>(byB l).map (UInt8.ofNat n.toNat :: ·)
 | _ :: _=>none
def cvB (k:Nat) (rd:List Nat) (p:Prop) (nx:Nat):Option (List UInt8)→Option TypeDesc→Rs
 | some l,some (.int .u8)=>⟨k=1∧p,.v (.string ⟨l.toArray⟩),rd,none,nx⟩
 | _,_=>bad nx
def cvR (P:Program) (v n k s nx e:Nat):Option Row→Rs
 | some r=>cvB k [s] (r.ver=v∧n≤r.cs.length) nx (byB (r.cs.take n)) (P.underlying e)
 | none=>bad nx
def cvX (P:Program) (H:Nat→Option Row) (nx:Nat):SV→Option TypeDesc→Option TypeDesc→Rs
 | .sl _ k cs,some (.slice e),some .string=>cvB k [] True nx (byB cs) (P.underlying e)
 | .own s v n k,some (.slice e),some .string=>cvR P v n k s nx e (H s)
 | .v (.slice none 0 0),some (.slice e),some .string=>cvB 1 [] True nx (some []) (P.underlying e)
 | x,a,b=>cvV nx x a b
def slO (P:Program) (nx:Nat) (lo hi:Option SV) (x:SV) (T:Option TypeDesc):Option Operand→Rs
 | none=>slV P nx lo hi x T
 | some _=>bad nx
def mkZ (P:Program) (d nx e n:Nat) (p:Prop):Option Value→Rs
 | some (.int t z)=>⟨p∧okT P e 1∧n * byT P e≤140737488355328∧n≤140737488355328,.own d nx n 1,[],some (d,⟨nx,e,1,List.replicate n (.v (.int t z))⟩),nx + 1⟩
 | _=>bad nx
def mkV (P:Program) (d nx:Nat):SV→SV→Option TypeDesc→Rs
 | .v (.int _ a),.v (.int _ b),some (.slice e)=>mkZ P d nx e a.toNat (b=a∧0≤a) (zcT P e)
 | _,_,_=>bad nx
def exec (P:Program) (d:Nat) (fz:List Nat) (e:Operand→SV) (H:Nat→Option Row) (nx:Nat):Op→Rs
 | .move x=>pu True (e x) nx
 | .assign x=>pu True (e x) nx
 | .pick c x y=>pkV (e c) (e x) (e y) nx
 | .alloc T=>alV T d nx (zcT P T)
 | .box T x=>bxV T d nx (cellsO (e x))
 | .build t ps=>blV P t (ps.toList.map fun p=>(p.1,cellsO (e p.2))) nx (P.underlying t)
 | .buildSlice t n ps=>bsV P d nx n (ps.toList.map fun p=>(p.1,cellsO (e p.2))) (P.underlying t)
 | .load T x=>ldV (agT P T) (szT P T) H nx (e x)
 | .store T x y=>stV (szT P T) H fz nx (e x) (cellsO (e y))
 | .nilCheck x=>ncV (e x) nx
 | .binOp o T x y _=>biX o nx (P.underlying T) (e x) (e y)
 | .unOp o _ x=>unV o nx (e x)
 | .convert s t x=>cvX P H nx (e x) (P.underlying s) (P.underlying t)
 | .slice t x lo hi mx=>slO P nx (lo.map e) (hi.map e) (e x) (P.underlying t) mx
 | .fieldAddr T x f=>faU P f (e x) nx (P.underlying T)
 | .field T x f=>flU P f nx (e x) (P.underlying T)
 | .indexAddr T x i=>iaV P nx (e x) (e i) (P.underlying T)
 | .index T x i=>ixV nx (e x) (e i) (P.underlying T)
 | .extract x i=>exV i nx (e x)
 | .makeSlice t n c=>mkV P d nx (e n) (e c) (P.underlying t)
 | .call c=>clC P d fz H nx e c.args.toList c.argTypes.toList c.callee
 | _=>bad nx
section
variable {P:Program} {g:Cx} {w:World} {ρ:Operand→Value} {o:Oper} {H:Nat→Option Row} {nx:Nat} {fz:List Nat}
theorem agL_map (e:Operand→SV):∀ (l:List (Nat × Operand)),(∀ p ∈ l,holds g w (e p.2) (ρ p.2))→agL g w ((l.map fun p=>(p.1,e p.2)).map (·.2)) (l.map fun p=>ρ p.2)
 | [],_=>trivial
 | p :: l,h=>⟨h p (List.mem_cons_self ..),agL_map e l fun q hq=>h q (List.mem_cons_of_mem _ hq)⟩
theorem q_mm {mx:Bool} {ts:Array TypeId} {x y:Operand} {sx sy:SV} (ho:o.op=.call { callee:=.builtin (if mx then .max else .min),args:=#[x,y],argTypes:=ts }) (hx:holds g w sx (ρ x)) (hy:holds g w sy (ρ y)) (hp:(mmV mx nx sx sy).p):Quiet P o ρ g w (mmV mx nx sx sy).r:=by
 unfold mmV at hp ⊢
 split at hp
 ·rename_i k a k' b
  have hp:k=k':=hp;have hx:ρ x=.int k a:=hx;have hy:ρ y=.int k' b:=hy;subst hp;cases mx with
  | true=>
    refine .ok (v:=.int k (max a b)) ?_ rfl;have:(if b > a then b else a)=max a b:=by omega
    simp [execOp,ho,resolve,invoke,builtin,Builtin.max_,Builtin.max2,hx,hy,this]
    try omega
  | false=>
    refine .ok (v:=.int k (min a b)) ?_ rfl;simp [execOp,ho,resolve,invoke,builtin,Builtin.min_,Builtin.min2,hx,hy]
    try omega
 ·exact hp.elim
theorem byB_some:∀ {cs:List SV} {l:List UInt8},byB cs=some l→∃ xs:List Int,cs=xs.map (fun n=>.v (.int .u8 n))∧l=xs.map fun n=>UInt8.ofNat n.toNat
 | [],l,h=>⟨[],rfl,by simpa [byB] using h.symm⟩
 | c :: cs,l,h=>by
   unfold byB at h
   split at h
   ·rename_i e;cases e
   ·rename_i n l' e
    injection e with e1 e2
    subst e1 e2;obtain ⟨m,hm,rfl⟩:=Option.map_eq_some_iff.1 h;obtain ⟨xs,h1,h2⟩:=byB_some hm;exact ⟨n :: xs,by simp [h1],by simp [h2]⟩
   ·cases h
theorem conv_core {T U e:TypeId} (hT:P.underlying T=some (.slice e)) (hU:P.underlying U=some .string) (he:P.underlying e=some (.int .u8)) {xs:List Int} {a:Option Addr} {n c:Nat} (hn:n=xs.length) (h:xs=[]∨∃ b o,a=some ⟨b,o,none⟩∧∀ i x,xs[i]?=some x→w.cell? ⟨b,o + i,none⟩=some (.int .u8 x)):(convert T U (.slice a n c)).run P w=.ok (.string ⟨(xs.map fun n=>UInt8.ofNat n.toNat).toArray⟩) w:=by
 subst hn;rcases h with rfl | ⟨b,o,rfl,h⟩
 ·cases a with
  | none=>exact run_convert_bytes_nil w T e hT he _ _ U hU
  | some ad=>
    rw [run_convert_bytes_string w T U e _ _ _ hT he hU,run_bytesToString w ad _ c [] (by simp [loadCells,loadCellsFrom])]
    rfl
 ·exact run_convert_bytes_arg w T e hT he b o _ c xs rfl (fun i hi=>by
   rw [h i xs[i] (List.getElem?_eq_getElem hi)];simp [List.getD,List.getElem?_eq_getElem hi]) U hU
theorem q_cx {T U:TypeId} {x:Operand} {s:SV} (ho:o.op=.convert T U x) (h:holds g w s (ρ x)) (hr:∀ u ∈ (cvX P H nx s (P.underlying T) (P.underlying U)).rd,∀ r,H u=some r→rowIn g w r) (hp:(cvX P H nx s (P.underlying T) (P.underlying U)).p):Quiet P o ρ g w (cvX P H nx s (P.underlying T) (P.underlying U)).r:=by
 have fin:∀ {v:Value} {l:List UInt8},ρ x=v→(convert T U v).run P w=.ok (.string ⟨l.toArray⟩) w→Quiet P o ρ g w (.v (.string ⟨l.toArray⟩)):=fun {v l} e hr=>.ok (v:=.string ⟨l.toArray⟩) (by simp only [execOp,ho,e,Sem.run_bind,hr,Result.andThen_ok,Sem.run_pure]) rfl
 have atv:∀ {g:Cx} {xs:List Int} {b o:Nat},atL g w (xs.map fun n=>.v (.int .u8 n)) b o→∀ i y,xs[i]?=some y→w.cell? ⟨b,o + i,none⟩=some (.int .u8 y):=fun {g xs b o} hat i y hy=>by
  obtain ⟨vs,h1,h2⟩:=hat.vals;have hi:=(List.getElem?_eq_some_iff.1 hy).1;obtain ⟨z,h3,h4⟩:=h2 i (by simpa using hi);obtain ⟨z',h5,h6⟩:=h1.get i (.v (.int .u8 y)) (by simp [hy]);rw [h3] at h5;cases h5;rw [h4,show z=.int .u8 y from h6]
 unfold cvX at hp hr ⊢
 split at hp
 ·rename_i n k cs e hT hU
  obtain ⟨a,c,e1,hn,hl,hc⟩:=h;unfold cvB at hp ⊢
  split at hp
  ·rename_i l hb he
   obtain ⟨rfl,_⟩:=hp;obtain ⟨xs,rfl,rfl⟩:=byB_some hb;refine fin e1 (conv_core hT hU he (by simpa using hl.symm) (hc.imp (fun h=>by simpa using h) fun ⟨b,o,ea,_,hat⟩=>⟨b,o,ea,atv hat⟩))
  ·exact hp.elim
 ·rename_i s v n k e hT hU
  cases hH:H s with
  | none=>rw [hH] at hp;exact hp.elim
  | some r=>
    simp only [hT,hU] at hr;simp only [hH,cvR] at hp hr ⊢;have hbe:∃ l,byB (r.cs.take n)=some l∧P.underlying e=some (.int .u8):=by
     cases hbb:byB (r.cs.take n) with
     | none=>rw [hbb] at hp;exact hp.elim
     | some l=>
       cases hee:P.underlying e with
       | none=>rw [hbb,hee] at hp;exact hp.elim
       | some d=>
         rw [hbb,hee] at hp;cases d with
         | int kk=>cases kk <;> first | exact ⟨l,rfl,rfl⟩ | exact hp.elim
         | _=>exact hp.elim
    obtain ⟨l,hb,he⟩:=hbe;rw [hb,he] at hp hr ⊢
    ·obtain ⟨rfl,hv,hnl⟩:=hp
     subst hv;obtain ⟨xs,e2,rfl⟩:=byB_some hb;have hlen:n=xs.length:=by
      have:=congrArg List.length e2;rw [List.length_take,List.length_map] at this;omega
     obtain ⟨ha,hka,hval⟩:=h;have hrow:=hr s (by simp [cvB]) r hH;by_cases hn0:n=0
     ·have hx0:xs=[]:=List.length_eq_zero_iff.1 (by omega)
      rcases hval with hval | ⟨_,hval⟩
      ·exact fin hval (conv_core hT hU he hlen (.inl hx0))
      ·subst hn0;exact fin hval (conv_core hT hU he hlen (.inl hx0))
     ·obtain ⟨hk0,arr,h1,h2,h3,h4⟩:=hrow.arr (by omega)
      have hval:=hval.resolve_right fun h=>hk0 h.1
      refine fin hval (conv_core hT hU he hlen (.inr ⟨_,0,rfl,fun i y hy=>?_⟩));have h5:=h4.take n;rw [e2] at h5;have hi:=(List.getElem?_eq_some_iff.1 hy).1;obtain ⟨z,h6,h7⟩:=h5.get i (.v (.int .u8 y)) (by simp [hy]);rw [List.getElem?_take_of_lt (by omega),List.getElem?_take_of_lt (by omega)] at h6;have h7:z=.int .u8 y:=h7;subst h7;simpa [World.cell?,h1] using h6
 ·rename_i e hT hU
  have h:ρ x=.slice none 0 0:=h;unfold cvB at hp ⊢
  split at hp
  ·rename_i l hb he
   cases hb
   exact fin h (conv_core hT hU he (xs:=[]) rfl (.inl rfl))
  ·exact hp.elim
 ·exact q_cv ho h hp
theorem made_one (z:Value) (n:Nat):(madeCells #[z] n).toList=List.replicate n z:=by
 apply List.ext_getElem
 ·simp [madeCells]
 ·intro i h1 h2
  simp [madeCells,Nat.mod_one]
theorem agL_rep (z:Value):∀ n:Nat,agL g w (List.replicate n (.v z)) (List.replicate n z)
 | 0=>trivial
 | n + 1=>⟨rfl,agL_rep z n⟩
theorem e_mk {t:TypeId} {d:Nat} {x y:Operand} {sx sy:SV} (ho:o.op=.makeSlice t x y) (hx:holds g w sx (ρ x)) (hy:holds g w sy (ρ y)) (hn:(mkV P d nx sx sy (P.underlying t)).wr≠none→¬ g.A nx) (hz:∀ b,g.Z b→b < w.heap.size) (hp:(mkV P d nx sx sy (P.underlying t)).p):Eff P o ρ g w H nx fz (mkV P d nx sx sy (P.underlying t)):=by
 unfold mkV at hp hn ⊢
 split at hp
 ·rename_i kx a ky b e hu
  have hx:ρ x=.int kx a:=hx;have hy:ρ y=.int ky b:=hy;cases hc:zcT P e with
  | none=>simp only [hc] at hp;exact False.elim hp
  | some v=>
    simp only [hc] at hp;cases v with
    | int k z=>
      have hA:=hn (by simp [hu,hc,mkZ]);obtain ⟨⟨rfl,h0⟩,h1,h2,h3⟩:=hp;obtain ⟨i,z',e1,e2,e3,e4,e5⟩:=okT_run h1;have hz':z'=.int k z:=by
       have:zcT P e=some z':=by
        unfold zcT zeroValue typeInfo;simp [e1,e3]
       rw [hc] at this;cases this;rfl
      subst hz';have hb:(i.bytes:Int) * b≤281474976710656:=by
       obtain ⟨m,rfl⟩:∃ m:Nat,b=m:=⟨b.toNat,by omega⟩;rw [e5];have:((byT P e * m:Nat):Int)≤281474976710656:=by
        have h2:m * byT P e≤140737488355328:=by simpa using h2
        rw [Nat.mul_comm] at h2;omega
       rwa [Int.natCast_mul] at this
      have hr:=run_make (P:=P) w t e i (.int k z) hu e1 e3 kx ky b b h0 (Int.le_refl _) hb (by omega);rw [e2,Nat.mul_one] at hr;refine eff_new (n:=b.toNat) (arr:=madeCells #[.int k z] b.toNat) (v:=.slice (some ⟨w.heap.size,0,none⟩) b.toNat b.toNat) hA hz (by simp [madeCells]) (by simp [madeCells]) ?_ ?_ fun g' w' h1' h2' h3'=>⟨h1',?_⟩
      ·rw [made_one,List.length_replicate,List.take_of_length_le (by simp)]
       exact agL_rep _ _
      ·simp only [execOp,ho,hx,hy,Sem.run_bind,hr,Result.andThen_ok,Sem.run_pure]
       rfl
      ·refine ⟨by omega,.inl (by rw [h2',h3'])⟩
    | _=>exact hp.elim
 ·exact hp.elim
def Rows (g:Cx) (w:World) (H:Nat→Option Row) (fz:List Nat) (R:Rs):Prop:=
 ∀ u r,H u=some r→(u ∈ R.rd∨∃ r',R.wr=some (u,r'))→rowIn g w r∧((∃ r',R.wr=some (u,r'))→fz.contains u=false→g.ka r.ver≠0→¬ g.Z (g.mu r.ver))
theorem exec_eff {d:Nat} {e:Operand→SV} (he:∀ x ∈ o.op.operands,holds g w (e x) (ρ x)) (hn:(exec P d fz e H nx o.op).wr≠none→¬ g.A nx) (hz:∀ b,g.Z b→b < w.heap.size) (hr:Rows g w H fz (exec P d fz e H nx o.op)) (hp:(exec P d fz e H nx o.op).p):Eff P o ρ g w H nx fz (exec P d fz e H nx o.op):=by
 have rd:∀ {R:Rs},exec P d fz e H nx o.op=R→∀ u ∈ R.rd,∀ r,H u=some r→rowIn g w r:=fun h u hu r hH=>(hr u r hH (.inl (h ▸ hu))).1
 obtain ⟨dst,op,ty,pos,after,guard⟩:=o;simp only at he hr hp rd hn ⊢;cases op with
 | move x=>exact (q_move (.inl rfl) (he x (by simp [Op.operands]))).eff rfl
 | assign x=>exact (q_move (.inr rfl) (he x (by simp [Op.operands]))).eff rfl
 | pick c x y=>
   refine (q_pick rfl (he c (by simp [Op.operands])) (he x (by simp [Op.operands])) (he y (by simp [Op.operands])) hp).eff ?_
   show (pkV _ _ _ _).wr=none;unfold pkV;split <;> rfl
 | alloc T=>exact e_al rfl hn hz hp
 | box T x=>exact e_bx rfl (he x (by simp [Op.operands])) hn hz hp
 | build t ps=>
   have h2:=agL_map (g:=g) (w:=w) (ρ:=ρ) e ps.toList fun p hp=>he p.2 (by simp [Op.operands];exact ⟨p.1,by simpa using hp⟩)
   have e1:(ps.toList.map fun p=>(p.1,cellsO (e p.2)))=(ps.toList.map fun p=>(p.1,e p.2)).map fun p=>(p.1,cellsO p.2):=by simp
   show Eff P _ ρ g w H nx fz (blV P t (ps.toList.map fun p=>(p.1,cellsO (e p.2))) nx (P.underlying t))
   have hp:(blV P t (ps.toList.map fun p=>(p.1,cellsO (e p.2))) nx (P.underlying t)).p:=hp;rw [e1] at hp ⊢;refine (q_bl rfl (by simp) h2 hp).eff ?_;unfold blV blS;repeat' split
   all_goals rfl
 | buildSlice t n ps=>
   have h2:=agL_map (g:=g) (w:=w) (ρ:=ρ) e ps.toList fun p hp=>he p.2 (by simp [Op.operands];exact ⟨p.1,by simpa using hp⟩)
   have e1:(ps.toList.map fun p=>(p.1,cellsO (e p.2)))=(ps.toList.map fun p=>(p.1,e p.2)).map fun p=>(p.1,cellsO p.2):=by simp
   show Eff P _ ρ g w H nx fz (bsV P d nx n (ps.toList.map fun p=>(p.1,cellsO (e p.2))) (P.underlying t))
   have hp:(bsV P d nx n (ps.toList.map fun p=>(p.1,cellsO (e p.2))) (P.underlying t)).p:=hp
   change (bsV P d nx n (ps.toList.map fun p=>(p.1,cellsO (e p.2))) (P.underlying t)).wr≠none→_ at hn
   rw [e1] at hp hn ⊢;exact e_bs rfl (by simp) h2 hn hz hp
 | load T x=>
   refine (q_ld rfl (he x (by simp [Op.operands])) (rd rfl) hp).eff ?_
   show (ldV _ _ _ _ _).wr=none
   unfold ldV ldR;repeat' split
   all_goals rfl
 | store T x y=>exact e_st rfl (he x (by simp [Op.operands])) (he y (by simp [Op.operands])) (fun u r hH h=>⟨(hr u r hH (.inr h)).1,(hr u r hH (.inr h)).2 h⟩) hp
 | nilCheck x=>
   refine (q_nil rfl (he x (by simp [Op.operands])) hp).eff ?_
   show (ncV _ _).wr=none;unfold ncV;split <;> rfl
 | binOp b T x y U=>
   refine (q_bx rfl (he x (by simp [Op.operands])) (he y (by simp [Op.operands])) hp).eff ?_
   show (biX _ _ _ _ _).wr=none
   unfold biX biV biI;repeat' split
   all_goals rfl
 | unOp b T x=>
   refine (q_un rfl (he x (by simp [Op.operands])) hp).eff ?_
   show (unV _ _ _).wr=none
   unfold unV;repeat' split
   all_goals rfl
 | convert T U x=>
   refine (q_cx rfl (he x (by simp [Op.operands])) (rd rfl) hp).eff ?_
   show (cvX _ _ _ _ _ _).wr=none
   unfold cvX cvR cvB cvV;repeat' split
   all_goals rfl
 | slice t x lo hi mx=>
   cases mx with
   | some _=>exact hp.elim
   | none=>
     refine (q_sl rfl (he x (by simp [Op.operands])) ?_ ?_ hp).eff ?_
     ·cases lo with
      | none=>trivial
      | some l=>exact he l (by simp [Op.operands])
     ·cases hi with
      | none=>trivial
      | some l=>exact he l (by simp [Op.operands])
     ·show (slV _ _ _ _ _ _).wr=none
      unfold slV slB;repeat' split
      all_goals rfl
 | fieldAddr T x f=>
   refine (q_fa rfl (he x (by simp [Op.operands])) hp).eff ?_
   show (faU _ _ _ _ _).wr=none
   unfold faU faF;repeat' split
   all_goals rfl
 | field T x f=>
   refine (q_fl rfl (he x (by simp [Op.operands])) hp).eff ?_
   show (flU _ _ _ _ _).wr=none
   unfold flU flF;repeat' split
   all_goals rfl
 | indexAddr T x i=>
   refine (q_ia rfl (he x (by simp [Op.operands])) (he i (by simp [Op.operands])) hp).eff ?_
   show (iaV _ _ _ _ _).wr=none
   unfold iaV;repeat' split
   all_goals rfl
 | index T x i=>
   refine (q_ix rfl (he x (by simp [Op.operands])) (he i (by simp [Op.operands])) hp).eff ?_
   show (ixV _ _ _ _).wr=none
   unfold ixV;repeat' split
   all_goals rfl
 | extract x i=>
   refine (q_ex rfl (he x (by simp [Op.operands])) hp).eff ?_
   show (exV _ _ _).wr=none
   unfold exV;split <;> rfl
 | makeSlice t n c=>exact e_mk rfl (he n (by simp [Op.operands])) (he c (by simp [Op.operands])) hn hz hp
 | call c=>
   obtain ⟨callee,args,ts⟩:=c;obtain ⟨args⟩:=args;obtain ⟨ts⟩:=ts;cases callee with
   | value f=>exact hp.elim
   | invoke r m=>exact hp.elim
   | builtin b=>
     have hop:∀ x ∈ args,holds g w (e x) (ρ x):=fun x hx=>he x (by simp [Op.operands,Call.operands,hx])
     show Eff P _ ρ g w H nx fz (biC P d fz H nx e b args ts)
     change (biC P d fz H nx e b args ts).p at hp
     change Rows g w H fz (biC P d fz H nx e b args ts) at hr
     change (biC P d fz H nx e b args ts).wr≠none→_ at hn
     clear rd he;unfold biC at hp hr hn ⊢
     split at hp
     ·rename_i x T
      refine (q_ln rfl (hop x (by simp)) hp (ty:=T)).eff ?_;unfold lnV;repeat' split
      all_goals rfl
     ·rename_i x y T T2
      simp only at hr hn ⊢;have hx:=hop x (by simp);have hy:=hop y (by simp);cases h2:inT (P.underlying T2) with
      | true=>rw [h2] at hp;exact hp.elim
      | false=>
        rw [h2] at hp hr hn;simp only [apB] at hp hr hn ⊢;cases hT:P.underlying T with
        | none=>rw [hT] at hp;cases h:e x <;> rw [h] at hp <;> exact hp.elim
        | some dT=>
          rw [hT] at hp hr hn;cases dT with
          | slice el=>
            simp only [elT] at hp hr hn ⊢;generalize e x=sx at hx hp hr hn ⊢;cases sx with
            | own s v n k=>
              simp only [apD] at hp hr hn ⊢;cases hH:H s with
              | none=>rw [hH] at hp;exact hp.elim
              | some r=>
                rw [hH] at hp hr hn;have hn:=hn (by simp [apR]);exact e_apR rfl hH hx hy hn hz hT h2 (fun u hu r hH=>(hr u r hH (.inl hu)).1) ((hr s r hH (.inl (by simp [apR]))).2 ⟨_,rfl⟩) hp
            | v x'=>
              have hx:ρ x=x':=hx;simp only [apD] at hp hr hn ⊢;unfold apW at hp hr hn ⊢
              split at hp
              ·have hn:=hn (by simp [apN])
               exact e_apN rfl hx hy hn hz hT h2 (fun u hu r hH=>(hr u r hH (.inl hu)).1) hp
              ·exact hp.elim
            | _=>exact hp.elim
          | _=>cases h:e x <;> rw [h] at hp <;> exact hp.elim
     ·rename_i x y
      refine (q_mm (mx:=false) rfl (hop x (by simp)) (hop y (by simp)) hp).eff ?_;unfold mmV;split <;> rfl
     ·rename_i x y
      refine (q_mm (mx:=true) rfl (hop x (by simp)) (hop y (by simp)) hp).eff ?_;unfold mmV;split <;> rfl
     ·exact hp.elim
 | _=>exact hp.elim
end
structure AS where
 fr:List (Nat × SV)
 hp:List (Nat × Row)
 nx:Nat
 fz:List Nat
 N:Nat
def look:List (Nat × SV)→Nat→SV
 | [],_=>.any
 | (k,v) :: r,n=>if k=n then v else look r n
def lookR:List (Nat × Row)→Nat→Option Row
 | [],_=>none
 | (k,v) :: r,n=>if k=n then some v else lookR r n
def putR:List (Nat × Row)→Nat→Row→List (Nat × Row)
 | [],s,r=>[(s,r)]
 | (k,v) :: l,s,r=>if k=s then (k,r) :: l else (k,v) :: putR l s r
def ev (fr:List (Nat × SV)):Operand→SV
 | .tmp t=>look fr t
 | .const v=>.v v
 | .global g=>.v (.pointer (some ⟨g,0,none⟩))
 | .func f=>.v (.func (.func f) #[] #[])
def putF (fr:List (Nat × SV)) (r:SV):Option Tmp→List (Nat × SV)
 | some d=>(d,r) :: fr
 | none=>fr
def putW (hp:List (Nat × Row)):Option (Nat × Row)→List (Nat × Row)
 | some (s,r)=>putR hp s r
 | none=>hp
def nxW (nx:Nat):Option (Nat × Row)→Nat
 | some _=>nx + 1
 | none=>nx
theorem lookR_putR:∀ (l:List (Nat × Row)) (s t:Nat) (r:Row),lookR (putR l s r) t=if s=t then some r else lookR l t
 | [],s,t,r=>rfl
 | (k,v) :: l,s,t,r=>by
   unfold putR;by_cases h:k=s
   ·subst h
    simp only [if_true,lookR]
    split <;> rfl
   ·simp only [h,if_false,lookR,lookR_putR l s t r]
    by_cases h1:k=t
    ·subst h1;simp [Ne.symm h]
    ·simp [h1]
structure En where
 w0:World
 g0:Cx
 lent:List Nat
structure Ev where
 E:World→Prop
 D:Nat→Prop
 st:∀ w w',w.heap.size≤w'.heap.size→E w→(∀ b,D b→w'.heap[b]?=w.heap[b]?)→E w'
 lt:∀ w b,E w→D b→b < w.heap.size
structure Inv (X:Ev) (e:En) (g:Cx) (w:World) (H:Nat→Option Row) (V:Nat→Prop) (fz:List Nat):Prop where
 le:e.g0.le g
 row:∀ s r,H s=some r→rowIn g w r
 apart:∀ s t r q,H s=some r→H t=some q→s≠t→g.ka r.ver≠0→g.ka q.ver≠0→g.mu r.ver≠g.mu q.ver
 free:∀ s r,H s=some r→fz.contains s=false→g.ka r.ver≠0→¬ g.Z (g.mu r.ver)
 mine:∀ s r,H s=some r→g.ka r.ver≠0→e.w0.heap.size≤g.mu r.ver∨(1000≤s∧∃ u ∈ e.lent,g.mu r.ver=e.g0.mu u∧e.g0.ka u≠0)
 ver:∀ u,g.A u→V u
 blk:∀ u,g.A u→g.ka u≠0→g.mu u < w.heap.size
 zlt:∀ b,g.Z b→b < w.heap.size
 znew:∀ b,g.Z b→e.g0.Z b∨e.w0.heap.size≤b
 keep:∀ b,b < e.w0.heap.size→(∀ u ∈ e.lent,e.g0.ka u≠0→b≠e.g0.mu u)→w.heap[b]?=e.w0.heap[b]?
 size:e.w0.heap.size≤w.heap.size
 io:w.os=e.w0.os∧w.tape=e.w0.tape∧w.output=e.w0.output
 env:X.E w
 nd:(∀ b,X.D b→b < e.w0.heap.size)∧∀ u ∈ e.lent,e.g0.ka u≠0→¬ X.D (e.g0.mu u)
section
variable {P:Program} {X:Ev} {e:En} {g:Cx} {w:World} {ρ:Operand→Value} {o:Oper} {H:Nat→Option Row} {nx:Nat} {fz:List Nat} {V:Nat→Prop}
def putH (H:Nat→Option Row):Option (Nat × Row)→Nat→Option Row
 | some (s,r),t=>if s=t then some r else H t
 | none,t=>H t
theorem lookR_putW (hp:List (Nat × Row)) (x:Option (Nat × Row)):lookR (putW hp x)=putH (lookR hp) x:=by
 funext t
 cases x with
 | none=>rfl
 | some x=>exact lookR_putR ..
theorem Inv.rows (h:Inv X e g w H V fz) {H':Nat→Option Row} {fz':List Nat} (R:Rs) (hH:∀ u,(u ∈ R.rd∨∃ r',R.wr=some (u,r'))→H' u=H u) (hz:∀ u r',R.wr=some (u,r')→fz'.contains u=false→fz.contains u=false):Rows g w H' fz' R:=
 fun u r hu ht=>⟨h.row u r ((hH u ht) ▸ hu),fun ⟨r',hw⟩ hc=>h.free u r ((hH u ht) ▸ hu) (hz u r' hw hc)⟩
theorem Inv.step (h:Inv X e g w H V fz) {R:Rs} {H':Nat→Option Row} {fz':List Nat} {V':Nat→Prop} (hf:Eff P o ρ g w H' nx fz' R) (hH:∀ u r',R.wr=some (u,r')→H' u=H u) (hz:∀ u r',R.wr=some (u,r')→fz'.contains u=false→fz.contains u=false) (hV:∀ u,V u→V' u) (hVn:R.wr≠none→V' nx):
 ∃ (v:Value) (w':World) (g':Cx),((execOp ρ o).run P w=.ok (.value v) w'∨((execOp ρ o).run P w=.ok .skip w'∧v=undef))∧holds g' w' R.r v∧Inv X e g' w' (putH H R.wr) V' fz∧g.le g'∧(∀ b,g.Z b→w'.heap[b]?=w.heap[b]?):=by
 obtain ⟨v,w',g',h1,h2,hc,hn,h3⟩:=hf;have hZ:∀ b,g.Z b→w'.heap[b]?=w.heap[b]?:=fun b hb=>hc.blk b (h.zlt b hb) fun ⟨s,r',r,e0,hs',hk,hz',eb⟩=>h.free s r ((hH s r' e0) ▸ hs') (hz s r' e0 hz') hk (eb ▸ hb)
 refine ⟨v,w',g',h1,h2,?_,hc.le,hZ⟩;cases hw:R.wr with
 | none=>
   obtain ⟨rfl,rfl⟩:=hn hw;exact { h with ver:=fun u hu=>hV u (h.ver u hu) }
 | some sr=>
   obtain ⟨s,r'⟩:=sr;obtain ⟨k1,k2⟩:=h3 s r' hw;have hcell:∀ t q,t≠s→H t=some q→g.ka q.ver≠0→w'.heap[g.mu q.ver]?=w.heap[g.mu q.ver]?:=fun t q hts ht hk=>by
    refine hc.blk _ (h.blk _ (h.row t q ht).1 hk) ?_;rintro ⟨s',r1,r2,e1,e2,e3,e4,e5⟩;rw [hw] at e1;cases e1
    exact h.apart t s q r2 ht ((hH s r' hw) ▸ e2) hts hk e3 e5
   have hg:∀ t q,H t=some q→g'.mu q.ver=g.mu q.ver∧g'.ka q.ver=g.ka q.ver:=fun t q ht=>(hc.le.a _ (h.row t q ht).1).2
   have k2:g'.ka r'.ver≠0→w.heap.size≤g'.mu r'.ver∨∃ r,H s=some r∧g.ka r.ver≠0∧g'.mu r'.ver=g.mu r.ver:=fun hk=>(k2 hk).imp id fun ⟨r,h1,h2⟩=>⟨r,(hH s r' hw) ▸ h1,h2⟩
   have hput:∀ t q,putH H (some (s,r')) t=some q→(t=s∧q=r')∨(t≠s∧H t=some q):=fun t q e=>by
    unfold putH at e;by_cases hst:s=t
    ·simp only [hst,if_true,Option.some.injEq] at e
     exact .inl ⟨hst.symm,e.symm⟩
    ·simp only [hst,if_false] at e
     exact .inr ⟨Ne.symm hst,e⟩
   have hsep:∀ t q,t≠s→H t=some q→g'.ka r'.ver≠0→g'.ka q.ver≠0→g'.mu r'.ver≠g'.mu q.ver:=fun t q hts ht ha hb=>by
    rw [(hg t q ht).2] at hb;rw [(hg t q ht).1];rcases k2 ha with hge | ⟨r,hr,hrk,hre⟩
    ·have:=h.blk _ (h.row t q ht).1 hb;omega
    ·rw [hre];exact h.apart s t r q hr ht (Ne.symm hts) hrk hb
   refine ⟨h.le.trans hc.le,fun t q hq=>?_,fun t u q p hq hp htu ha hb=>?_,fun t q hq hzt hk=>?_,fun t q hq hk=>?_,fun u hu=>?_,fun u hu hk=>?_,fun b hb=>?_,fun b hb=>?_,fun b hb hl=>?_,Nat.le_trans h.size hc.size,⟨hc.io.1.trans h.io.1,hc.io.2.1.trans h.io.2.1,hc.io.2.2.trans h.io.2.2⟩,X.st w w' hc.size h.env fun b hb=>hc.blk b (X.lt w b h.env hb) ?_,h.nd⟩
   ·rcases hput t q hq with ⟨_,rfl⟩ | ⟨hts,ht⟩
    ·exact k1
    ·exact (h.row t q ht).mono hc.le hZ fun hk=>hcell t q hts ht hk
   ·rcases hput t q hq with ⟨rfl,rfl⟩ | ⟨hts,ht⟩ <;> rcases hput u p hp with ⟨rfl,rfl⟩ | ⟨hus,hU⟩
    ·exact absurd rfl htu
    ·exact hsep u p hus hU ha hb
    ·exact (hsep t q hts ht hb ha).symm
    ·rw [(hg t q ht).2] at ha
     rw [(hg u p hU).2] at hb;rw [(hg t q ht).1,(hg u p hU).1];exact h.apart t u q p ht hU htu ha hb
   ·rw [hc.z]
    rcases hput t q hq with ⟨rfl,rfl⟩ | ⟨hts,ht⟩
    ·rcases k2 hk with hge | ⟨r,hr,hrk,hre⟩
     ·intro hb;have:=h.zlt _ hb;omega
     ·rw [hre];exact h.free t r hr hzt hrk
    ·rw [(hg t q ht).2] at hk
     rw [(hg t q ht).1];exact h.free t q ht hzt hk
   ·rcases hput t q hq with ⟨rfl,rfl⟩ | ⟨hts,ht⟩
    ·rcases k2 hk with hge | ⟨r,hr,hrk,hre⟩
     ·exact .inl (Nat.le_trans h.size hge)
     ·rw [hre];exact h.mine t r hr hrk
    ·rw [(hg t q ht).2] at hk
     rw [(hg t q ht).1];exact h.mine t q ht hk
   ·rcases hc.ver u hu with hu | ⟨hu,_⟩
    ·exact hV u (h.ver u hu)
    ·subst hu;exact hVn (by rw [hw];simp)
   ·rcases hc.ver u hu with hu | ⟨hu,hlt⟩
    ·have e2:=(hc.le.a u hu).2
     rw [e2.2] at hk;rw [e2.1];exact Nat.lt_of_lt_of_le (h.blk u hu hk) hc.size
    ·exact hlt hk
   ·rw [hc.z] at hb
    exact Nat.lt_of_lt_of_le (h.zlt b hb) hc.size
   ·rw [hc.z] at hb
    exact h.znew b hb
   ·refine (hc.blk b (Nat.lt_of_lt_of_le hb h.size) ?_).trans (h.keep b hb hl)
    rintro ⟨s',r1,r2,e1,e2,e3,e4,e5⟩;rcases h.mine s' r2 ((hH s' r1 e1) ▸ e2) e3 with hge | ⟨_,u,hu,eu,hk⟩
    ·omega
    ·exact hl u hu hk (e5.trans eu)
   ·rintro ⟨s',r1,r2,e1,e2,e3,e4,e5⟩
    rcases h.mine s' r2 ((hH s' r1 e1) ▸ e2) e3 with hge | ⟨_,u,hu,eu,hk⟩
    ·have:=h.nd.1 b hb;omega
    ·exact h.nd.2 u hu hk ((e5.trans eu) ▸ hb)
def Rel (X:Ev) (e:En) (σ:AS) (a:Act) (w:World):Prop:=
 a.defers=[]∧a.tmps.size=σ.N∧∃ g,(∀ d,holds g w (look σ.fr d) (a.tmps.getD d undef))∧Inv X e g w (lookR σ.hp) (· < σ.nx) σ.fz
theorem Rel.ev {σ:AS} {a:Act} (h:∀ d,holds g w (look σ.fr d) (a.tmps.getD d undef)) (x:Operand):holds g w (ev σ.fr x) (a.eval x):=by
 cases x with
 | tmp t=>exact h t
 | const v=>rfl
 | global i=>rfl
 | func f=>rfl
def dOk (N:Nat):Option Tmp→Prop
 | some d=>d < N
 | none=>True
theorem put_rel {σ:AS} {a:Act} {dst:Option Tmp} {v:Value} {r:SV} (h:∀ d,holds g w (look σ.fr d) (a.tmps.getD d undef)) (hs:a.tmps.size=σ.N) (hd:dOk σ.N dst) (hv:holds g w r v):(a.put dst v).defers=a.defers∧(a.put dst v).tmps.size=σ.N∧∀ d,holds g w (look (putF σ.fr r dst) d) ((a.put dst v).tmps.getD d undef):=by
 cases dst with
 | none=>exact ⟨rfl,hs,h⟩
 | some k=>
   have hd:k < σ.N:=hd;refine ⟨rfl,by simpa [Act.put] using hs,fun d=>?_⟩;simp only [putF,look,Act.put];by_cases hk:k=d
   ·subst hk
    simp [hs,hd];exact hv
   ·simp only [hk,if_false]
    have:=h d;rw [Array.getD_eq_getD_getElem?] at this ⊢;rwa [Array.getElem?_setIfInBounds_ne hk]
end
def cv (H:Nat→Option Row):Nat→SV→SV
 | 0,_=>.any
 | n + 1,.own s v m k=>match H s with
   | some r=>if r.ver=v∧r.k=k∧m * k≤r.cs.length then .sl m k ((r.cs.take (m * k)).map (cv H n)) else .any
   | none=>.any
 | n + 1,.ptr s v o=>match H s with
   | some r=>if r.ver=v∧o < r.cs.length then .rp ((r.cs.drop o).map (cv H n)) else .any
   | none=>.any
 | n + 1,.agg cs=>.agg (cs.map (cv H n))
 | n + 1,.tup cs=>.tup (cs.map (cv H n))
 | _ + 1,.v x=>.v x
 | _ + 1,.sl n k cs=>.sl n k cs
 | _ + 1,.rp cs=>.rp cs
 | _ + 1,.s q=>.s q
 | _ + 1,.any=>.any
section
variable {P:Program} {X:Ev} {e:En} {g:Cx} {w:World} {ρ:Operand→Value} {o:Oper} {H:Nat→Option Row} {V:Nat→Prop} {fz:List Nat}
theorem agL.map {f:SV→SV} {g':Cx} (h:∀ s v,holds g w s v→holds g' w (f s) v):∀ {cs:List SV} {vs:List Value},agL g w cs vs→agL g' w (cs.map f) vs
 | [],[],_=>trivial
 | _ :: _,_ :: _,k=>⟨h _ _ k.1,agL.map h k.2⟩
theorem cv_holds {g':Cx} (hz:∀ b,g.Z b→g'.Z b) (hr:∀ s r,H s=some r→rowIn g w r∧(g.ka r.ver≠0→g'.Z (g.mu r.ver))):∀ n s v,holds g w s v→holds g'.pure w (cv H n s) v
 | 0,_,_,_=>trivial
 | n + 1,.own s ver m k,v,h=>by
   have ih:=cv_holds hz hr n;unfold cv;cases hH:H s with
   | none=>trivial
   | some r=>
     simp only
     split
     ·rename_i hc
      obtain ⟨hv,hk,hl⟩:=hc;subst hv hk;obtain ⟨ha,hm,e⟩:=h;obtain ⟨hrow,hZ⟩:=hr s r hH;have hlen:((r.cs.take (m * r.k)).map (cv H n)).length=m * r.k:=by rw [List.length_map,List.length_take];omega
      by_cases hka:g.ka r.ver=0
      ·obtain rfl:m=0:=by omega
       have e2:((r.cs.take (0 * r.k)).map (cv H n))=[]:=by simp
       rcases e with e | e
       ·exact ⟨_,_,e,by omega,hlen,.inl (by rw [e2];rfl)⟩
       ·exact ⟨_,_,e.2,by omega,hlen,.inl (by rw [e2];rfl)⟩
      ·have e:=e.resolve_right fun h=>hka h.1
       rcases hrow.2 with h0 | ⟨arr,h1,h2,h3,h4⟩
       ·exact absurd h0.1 hka
       ·have h5:agL g'.pure w ((r.cs.take (m * r.k)).map (cv H n)) ((arr.toList.take r.cs.length).take (m * r.k)):=(h4.take _).map ih
        refine ⟨_,_,e,hm,hlen,.inr ⟨_,0,rfl,hZ hka,atL.of h5 fun i x hx=>?_⟩⟩;have hi:=(List.getElem?_eq_some_iff.1 hx).1;rw [List.length_take,List.length_take] at hi;rw [List.getElem?_take_of_lt (by omega),List.getElem?_take_of_lt (by omega)] at hx;simpa [World.cell?,h1] using hx
     ·trivial
 | n + 1,.ptr s ver off,v,h=>by
   have ih:=cv_holds hz hr n;unfold cv;cases hH:H s with
   | none=>trivial
   | some r=>
     simp only
     split
     ·rename_i hc
      obtain ⟨hv,hl⟩:=hc;subst hv;obtain ⟨ha,e⟩:=h;obtain ⟨hrow,hZ⟩:=hr s r hH;obtain ⟨hka,arr,h1,h2,h3,h4⟩:=hrow.arr (by omega);have h5:agL g'.pure w ((r.cs.drop off).map (cv H n)) ((arr.toList.take r.cs.length).drop off):=(h4.drop _).map ih;refine ⟨_,off,e,hZ hka,atL.of h5 fun i x hx=>?_⟩;have hi:=(List.getElem?_eq_some_iff.1 hx).1;rw [List.length_drop,List.length_take] at hi;rw [List.getElem?_drop,List.getElem?_take_of_lt (by omega)] at hx;simpa [World.cell?,h1] using hx
     ·trivial
 | n + 1,.agg cs,v,h=>by
   obtain ⟨vs,e,h⟩:=h;exact ⟨vs,e,h.map (cv_holds hz hr n)⟩
 | n + 1,.tup cs,v,h=>by
   obtain ⟨vs,e,h⟩:=h;exact ⟨vs,e,h.map (cv_holds hz hr n)⟩
 | _ + 1,.v x,v,h=>h
 | _ + 1,.sl n k cs,v,h=>by
   obtain ⟨a,c,e,hn,hl,h⟩:=h;exact ⟨a,c,e,hn,hl,h.imp id fun ⟨b,o,e,hzb,h⟩=>⟨b,o,e,hz b hzb,atL.mono (g:=g.pure) (g':=g'.pure.pure) ⟨hz,fun _ h=>h.elim⟩ (fun _ _=>rfl) _ _ _ hzb h⟩⟩
 | _ + 1,.rp cs,v,h=>by
   obtain ⟨b,o,e,hzb,h⟩:=h;exact ⟨b,o,e,hz b hzb,atL.mono (g:=g.pure) (g':=g'.pure.pure) ⟨hz,fun _ h=>h.elim⟩ (fun _ _=>rfl) _ _ _ hzb h⟩
 | _ + 1,.s q,v,h=>by
   obtain ⟨a,n,c,e,h⟩:=h;exact ⟨a,n,c,e,q.mono hz (fun _ _=>rfl) h⟩
 | _ + 1,.any,v,h=>trivial
def ren1 (d u:Nat):SV→SV
 | .own s v n k=>if s=2000 then .own d u n k else .own s v n k
 | .ptr s v o=>if s=2000 then .ptr d u o else .ptr s v o
 | x=>x
def ren (d u:Nat):SV→SV
 | .tup cs=>.tup (cs.map (ren1 d u))
 | x=>ren1 d u x
def rnR (nx:Nat):List Nat→List Row→List Row
 | [],q :: _=>[⟨nx,q.T,q.k,q.cs⟩]
 | _ :: L,r :: rs=>r :: rnR nx L rs
 | _,[]=>[]
def CV (P:Program) (f:FuncId) (vals:Array Value) (w:World) (Q:Ending→World→Prop):Prop:=((callFunc f vals).run P w=.ok (.enter f vals) w∧Calls P f vals w Q)∨∃ v w',(callFunc f vals).run P w=.ok (.value v) w'∧Q (.returned v) w'
theorem CV.mono {f:FuncId} {vals:Array Value} {Q Q':Ending→World→Prop} (h:CV P f vals w Q) (k:∀ en w',Q en w'→Q' en w'):CV P f vals w Q':=
 h.imp (fun h=>⟨h.1,h.2.mono k⟩) fun ⟨v,w',h1,h2⟩=>⟨v,w',h1,k _ _ h2⟩
structure AC (P:Program) (X:Ev) (f:FuncId) (args:List SV) (rows:List Row) (C:SV→List Row→Prop):Prop where
 out:∀ (g:Cx) (w:World) (vals:List Value) (nx:Nat),X.E w→(∀ b,g.Z b→b < w.heap.size)→(∀ u,g.A u→u < nx)→(∀ u,g.A u→g.ka u≠0→g.mu u < w.heap.size)→agL g w args vals→
  (∀ r ∈ rows,rowIn g w r∧(g.ka r.ver≠0→¬ g.Z (g.mu r.ver)∧¬ X.D (g.mu r.ver)))→(∀ (i j:Nat) (r q:Row),rows[i]?=some r→rows[j]?=some q→i≠j→g.ka r.ver≠0→g.ka q.ver≠0→g.mu r.ver≠g.mu q.ver)→
  CV P f vals.toArray w fun en w'=>∃ (v:Value) (r:SV) (rows':List Row) (g':Cx),en=.returned v∧C r rows'∧holds g' w' (ren 0 nx r) v∧g.le g'∧(∀ b,g'.Z b→g.Z b∨(w.heap.size≤b∧b < w'.heap.size))∧
   (rows'.length=rows.length∨rows'.length=rows.length + 1)∧(∀ (i:Nat) (r q:Row),rows[i]?=some r→rows'[i]?=some q→q.ver=r.ver)∧(∀ q ∈ rnR nx (rows.map (·.ver)) rows',rowIn g' w' q)∧(∀ u,g'.A u→g.A u∨(rows'.length=rows.length + 1∧u=nx∧(g'.ka nx≠0→w.heap.size≤g'.mu nx∧g'.mu nx < w'.heap.size∧¬ g'.Z (g'.mu nx))))∧w.heap.size≤w'.heap.size∧(∀ b,b < w.heap.size→(∀ r ∈ rows,g.ka r.ver≠0→b≠g.mu r.ver)→w'.heap[b]?=w.heap[b]?)∧(w'.os=w.os∧w'.tape=w.tape∧w'.output=w.output)∧X.E w'
theorem AC.mono {f:FuncId} {args:List SV} {rows:List Row} {C C':SV→List Row→Prop} (h:AC P X f args rows C) (hc:∀ r rows',C r rows'→C' r rows'):AC P X f args rows C':=
 ⟨fun g w vals nx a b c d e i j=>(h.out g w vals nx a b c d e i j).mono fun _ _ ⟨v,r,rows',g',h1,h2,h3⟩=>⟨v,r,rows',g',h1,hc _ _ h2,h3⟩⟩
theorem AC.weak {f:FuncId} {args:List SV} {rows:List Row} {C C':SV→List Row→Prop} (h:AC P X f args rows C) (hc:∀ r rows',C r rows'→∃ r',C' r' rows'∧∀ g w v nx,holds g w (ren 0 nx r) v→holds g w (ren 0 nx r') v):AC P X f args rows C':=
 ⟨fun g w vals nx a b c d e i j=>(h.out g w vals nx a b c d e i j).mono fun _ _ ⟨v,r,rows',g',h1,h2,h3,h4⟩=>have ⟨r',h5,h6⟩:=hc _ _ h2;⟨v,r',rows',g',h1,h5,h6 _ _ _ _ h3,h4⟩⟩
def putRs (hp:List (Nat × Row)):List Nat→List Row→List (Nat × Row)
 | s :: L,r :: rs=>putRs (putR hp s r) L rs
 | _,_=>hp
theorem lookR_putRs:∀ (L:List Nat) (rs:List Row) (hp:List (Nat × Row)) (t:Nat) (q:Row),lookR (putRs hp L rs) t=some q→(∃ i:Nat,L[i]?=some t∧rs[i]?=some q)∨((t ∉ L∨rs.length < L.length)∧lookR hp t=some q)
 | [],rs,hp,t,q,h=>.inr ⟨.inl (by simp),h⟩
 | s :: L,[],hp,t,q,h=>.inr ⟨.inr (by simp),h⟩
 | s :: L,r :: rs,hp,t,q,h=>by
   rcases lookR_putRs L rs (putR hp s r) t q h with ⟨i,h1,h2⟩ | ⟨h1,h2⟩
   ·exact .inl ⟨i + 1,by simpa using h1,by simpa using h2⟩
   ·rw [lookR_putR] at h2
    by_cases hst:s=t
    ·simp only [hst,if_true,Option.some.injEq] at h2
     exact .inl ⟨0,by simp [hst],by simp [h2]⟩
    ·simp only [hst,if_false] at h2
     refine .inr ⟨h1.imp (fun h1=>?_) (fun h1=>by simpa using h1),h2⟩;simp only [List.mem_cons,not_or];exact ⟨Ne.symm hst,h1⟩
def frzH (hp:List (Nat × Row)) (fs:List Nat) (s:Nat):Option Row:=if fs.contains s=true∧s < 1000 then lookR hp s else none
def lnR (Hf:Nat→Option Row):Option Row→Row
 | some r=>⟨r.ver,r.T,r.k,r.cs.map (cv Hf 6)⟩
 | none=>⟨0,0,0,[]⟩
def lnt (hp:List (Nat × Row)) (fs L:List Nat):List Row:=L.map fun s=>lnR (frzH hp fs) (lookR hp s)
def arg (hp:List (Nat × Row)) (fs L:List Nat):SV→SV
 | .ptr s v o=>if L.contains s=true then .ptr s v o else cv (frzH hp fs) 6 (.ptr s v o)
 | x=>cv (frzH hp fs) 6 x
def lntOk (hp:List (Nat × Row)) (fz fs:List Nat):List Nat→Prop
 | []=>True
 | s :: L=>(lookR hp s).isSome=true∧fz.contains s=false∧fs.contains s=false∧L.contains s=false∧lntOk hp fz fs L
theorem lntOk.get {hp:List (Nat × Row)} {fs:List Nat}:∀ {L:List Nat},lntOk hp fz fs L→∀ (i s:Nat),L[i]?=some s→(∃ r,lookR hp s=some r)∧fz.contains s=false∧fs.contains s=false
 | _ :: _,h,0,s,e=>by simp at e;subst e;exact ⟨Option.isSome_iff_exists.1 h.1,h.2.1,h.2.2.1⟩
 | _ :: _,h,i + 1,s,e=>lntOk.get h.2.2.2.2 i s (by simpa using e)
 | [],_,i,s,e=>by simp at e
theorem lntOk.inj {hp:List (Nat × Row)} {fs:List Nat}:∀ {L:List Nat},lntOk hp fz fs L→∀ (i j s:Nat),L[i]?=some s→L[j]?=some s→i=j
 | x :: L,h,0,0,s,_,_=>rfl
 | x :: L,h,i + 1,j + 1,s,e,k=>by rw [lntOk.inj h.2.2.2.2 i j s (by simpa using e) (by simpa using k)]
 | x :: L,h,0,j + 1,s,e,k=>by
   simp at e k;subst e;have:=List.mem_of_getElem? k;have h:=h.2.2.2.1;simp at h;exact absurd this h
 | x :: L,h,i + 1,0,s,e,k=>by
   simp at e k;subst k;have:=List.mem_of_getElem? e;have h:=h.2.2.2.1;simp at h;exact absurd this h
 | [],_,i,_,s,e,_=>by simp at e
def Zf (g:Cx) (hp:List (Nat × Row)) (fs:List Nat) (b:Nat):Prop:=g.Z b∨∃ s r,frzH hp fs s=some r∧g.ka r.ver≠0∧b=g.mu r.ver
theorem frzH_some {hp:List (Nat × Row)} {fs:List Nat} {s:Nat} {r:Row} (h:frzH hp fs s=some r):fs.contains s=true∧s < 1000∧lookR hp s=some r:=by
 unfold frzH at h
 split at h
 ·rename_i hc;exact ⟨hc.1,hc.2,h⟩
 ·cases h
theorem Inv.frz {hp:List (Nat × Row)} (h:Inv X e g w H V fz) (fs:List Nat) (hfs:∀ s,fs.contains s=true→lookR hp s=H s) (s:Nat) (r:Row) (hs:frzH hp fs s=some r):rowIn g w r∧(g.ka r.ver≠0→(⟨Zf g hp fs,g.A,g.mu,g.ka⟩:Cx).Z (g.mu r.ver)):=
 ⟨h.row s r ((hfs s (frzH_some hs).1) ▸ (frzH_some hs).2.2),fun hk=>.inr ⟨s,r,hs,hk,rfl⟩⟩
theorem arg_holds {hp:List (Nat × Row)} (h:Inv X e g w H V fz) (fs:List Nat) (hfs:∀ s,fs.contains s=true→lookR hp s=H s) (L:List Nat) (s:SV) (v:Value) (hv:holds g w s v):holds ⟨Zf g hp fs,g.A,g.mu,g.ka⟩ w (arg hp fs L s) v:=by
 have key:=(cv_holds (g':=⟨Zf g hp fs,g.A,g.mu,g.ka⟩) (fun b hb=>.inl hb) (h.frz fs hfs) 6 s v hv).up;cases s with
 | ptr s ver off=>
   show holds _ w (if L.contains s=true then .ptr s ver off else cv (frzH hp fs) 6 (.ptr s ver off)) v
   by_cases hc:L.contains s=true
   ·rw [if_pos hc];exact hv
   ·rw [if_neg hc];exact key
 | _=>exact key
def wl (d:Nat):List Nat→List Row→List Nat
 | [],_ :: _=>[d]
 | s :: L,_ :: rs=>s :: wl d L rs
 | L,[]=>L
theorem holds_ren {d d' u:Nat}:∀ (s:SV) (v:Value),holds g w (ren d u s) v→holds g w (ren d' u s) v:=by
 have key:∀ (s:SV) (v:Value),holds g w (ren1 d u s) v→holds g w (ren1 d' u s) v:=fun s v h=>by
  cases s with
  | own t ver n k=>
    simp only [ren1] at h ⊢
    split at h <;> rename_i hc <;> simp only [hc,if_true,if_false] <;> exact h
  | ptr t ver o=>
    simp only [ren1] at h ⊢
    split at h <;> rename_i hc <;> simp only [hc,if_true,if_false] <;> exact h
  | _=>exact h
 have keys:∀ (cs:List SV) (vs:List Value),agL g w (cs.map (ren1 d u)) vs→agL g w (cs.map (ren1 d' u)) vs:=by
  intro cs
  induction cs with
  | nil=>intro vs h;exact h
  | cons c cs ih=>
    intro vs h;cases vs with
    | nil=>exact h
    | cons v vs=>exact ⟨key c v h.1,ih vs h.2⟩
 intro s v h;cases s with
 | tup cs=>obtain ⟨vs,e,h⟩:=h;exact ⟨vs,e,keys cs vs h⟩
 | own t ver n k=>exact key (.own t ver n k) v h
 | ptr t ver o=>exact key (.ptr t ver o) v h
 | _=>exact h
def fl0:SV→Bool
 | .v _ | .own .. | .ptr .. | .any | .sl _ _ []=>true
 | _=>false
def fl1:SV→Bool
 | .agg cs=>cs.all fl0
 | x=>fl0 x
def fl:SV→Bool
 | .tup cs=>cs.all fl1
 | x=>fl1 x
theorem fl0_holds {s:SV} {v:Value} (hs:fl0 s=true) (h:holds g w s v) (Z:Nat→Prop):holds ⟨Z,g.A,g.mu,g.ka⟩ w s v:=by
 unfold fl0 at hs
 split at hs
 ·exact h
 ·exact h
 ·exact h
 ·trivial
 ·obtain ⟨a,c,e,hn,hl,_⟩:=h
  exact ⟨a,c,e,hn,hl,.inl rfl⟩
 ·cases hs
theorem fl0s_holds (Z:Nat→Prop):∀ {cs:List SV} {vs:List Value},cs.all fl0=true→agL g w cs vs→agL ⟨Z,g.A,g.mu,g.ka⟩ w cs vs
 | [],[],_,_=>trivial
 | c :: cs,v :: vs,hf,h=>by
   simp only [List.all_cons,Bool.and_eq_true] at hf;exact ⟨fl0_holds hf.1 h.1 Z,fl0s_holds Z hf.2 h.2⟩
theorem fl1_holds {s:SV} {v:Value} (hs:fl1 s=true) (h:holds g w s v) (Z:Nat→Prop):holds ⟨Z,g.A,g.mu,g.ka⟩ w s v:=by
 cases s with
 | agg cs=>obtain ⟨vs,e,h⟩:=h;exact ⟨vs,e,fl0s_holds Z hs h⟩
 | _=>refine fl0_holds ?_ h Z;exact hs
theorem fl1s_holds (Z:Nat→Prop):∀ {cs:List SV} {vs:List Value},cs.all fl1=true→agL g w cs vs→agL ⟨Z,g.A,g.mu,g.ka⟩ w cs vs
 | [],[],_,_=>trivial
 | c :: cs,v :: vs,hf,h=>by
   simp only [List.all_cons,Bool.and_eq_true] at hf;exact ⟨fl1_holds hf.1 h.1 Z,fl1s_holds Z hf.2 h.2⟩
theorem fl_holds {s:SV} {v:Value} (hs:fl s=true) (h:holds g w s v) (Z:Nat→Prop):holds ⟨Z,g.A,g.mu,g.ka⟩ w s v:=by
 cases s with
 | tup cs=>obtain ⟨vs,e,h⟩:=h;exact ⟨vs,e,fl1s_holds Z hs h⟩
 | _=>refine fl1_holds ?_ h Z;exact hs
theorem ren1_fl {d u:Nat} {s:SV} (h:fl1 s=true):fl1 (ren1 d u s)=true:=by
 cases s with
 | own t ver n k=>show fl1 (if t=2000 then _ else _)=true;split <;> rfl
 | ptr t ver o=>show fl1 (if t=2000 then _ else _)=true;split <;> rfl
 | _=>exact h
theorem ren_fl {d u:Nat} {s:SV} (h:fl s=true):fl (ren d u s)=true:=by
 cases s with
 | tup cs=>
   show (cs.map (ren1 d u)).all fl1=true
   rw [List.all_map];exact List.all_eq_true.2 fun x hx=>ren1_fl (List.all_eq_true.1 h x hx)
 | own t ver n k=>show fl (if t=2000 then _ else _)=true;split <;> rfl
 | ptr t ver o=>show fl (if t=2000 then _ else _)=true;split <;> rfl
 | _=>exact h
def frees (r:SV) (rows:List Row):Bool:=fl r && rows.all fun q=>q.cs.all fl0
def fzA (fs fz:List Nat) (r:SV) (rows:List Row):List Nat:=if frees r rows then fz else fs ++ fz
theorem rnR_mem {nx:Nat}:∀ {L:List Nat} {rows:List Row} {q:Row},q ∈ rnR nx L rows→∃ p ∈ rows,q.cs=p.cs
 | [],p :: _,q,h=>by
   simp only [rnR,List.mem_singleton] at h;exact ⟨p,List.mem_cons_self ..,by rw [h]⟩
 | _ :: L,p :: rs,q,h=>by
   simp only [rnR,List.mem_cons] at h;rcases h with rfl | h
   ·exact ⟨q,List.mem_cons_self ..,rfl⟩
   ·obtain ⟨p',a,b⟩:=rnR_mem h
    exact ⟨p',List.mem_cons_of_mem _ a,b⟩
 | [],[],q,h=>by simp [rnR] at h
 | _ :: _,[],q,h=>by simp [rnR] at h
theorem rnR_same {nx:Nat}:∀ {L M:List Nat} {rows:List Row},L.length=M.length→rnR nx L rows=rnR nx M rows
 | [],[],_,_=>rfl
 | _ :: L,_ :: M,[],_=>rfl
 | _ :: L,_ :: M,r :: rs,h=>by simp only [rnR];rw [rnR_same (by simpa using h)]
theorem rnR_get {d nx:Nat}:∀ {L:List Nat} {rows:List Row},(rows.length=L.length∨rows.length=L.length + 1)→(wl d L rows).length=(rnR nx L rows).length∧∀ (i:Nat) (t:Nat) (q:Row),(wl d L rows)[i]?=some t→(rnR nx L rows)[i]?=some q→(L[i]?=some t∧rows[i]?=some q)∨(rows.length=L.length + 1∧t=d∧q.ver=nx∧q ∈ rnR nx L rows∧L[i]?=none)
 | [],[],_=>⟨rfl,fun i t q h=>by simp [wl] at h⟩
 | [],[p],_=>⟨rfl,fun i t q h k=>by
  cases i with
  | zero=>simp [wl,rnR] at h k;subst k;exact .inr ⟨rfl,h.symm,rfl,by simp [rnR],rfl⟩
  | succ i=>simp [wl] at h⟩
 | [],_ :: _ :: _,h=>by simp at h
 | _ :: _,[],h=>by simp at h
 | s :: L,p :: rs,h=>by
   obtain ⟨h1,h2⟩:= @rnR_get d nx L rs (by simpa using h);refine ⟨by simpa [wl,rnR] using h1,fun i t q a b=>?_⟩;cases i with
   | zero=>simp [wl,rnR] at a b;subst a b;exact .inl ⟨rfl,rfl⟩
   | succ i=>
     simp only [wl,rnR,List.getElem?_cons_succ] at a b;rcases h2 i t q a b with h3 | ⟨h3,h4,h5,h6,h7⟩
     ·exact .inl (by simpa using h3)
     ·exact .inr ⟨by simpa using h3,h4,h5,List.mem_cons_of_mem _ h6,by simpa using h7⟩
def calH (hp:List (Nat × Row)) (H:Nat→Option Row) (L:List Nat) (rows:List Row) (t:Nat):Option Row:=if L.contains t=true then lookR (putRs hp L rows) t else H t
def VA (V:Nat→Prop) (L:List Nat) (rows:List Row) (nx:Nat) (u:Nat):Prop:=V u∨(rows.length=L.length + 1∧u=nx)
theorem Inv.call {hp:List (Nat × Row)} {nx:Nat} (d:Nat) (h:Inv X e g w H V fz) (hVn:∀ u,V u→u < nx) {f:FuncId} {args:List SV} {vals:List Value} {C:SV→List Row→Prop} (fs L:List Nat) (hac:AC P X f (args.map (arg hp fs L)) (lnt hp fs L) C) (hv:agL g w args vals) (hL:lntOk hp fz fs L) (hfs:∀ s,fs.contains s=true→lookR hp s=H s) (hLs:∀ s ∈ L,lookR hp s=H s):
 CV P f vals.toArray w fun en w'=>∃ (v:Value) (r:SV) (rows':List Row) (g':Cx),en=.returned v∧C r rows'∧(rows'.length=L.length∨rows'.length=L.length + 1)∧holds g' w' (ren d nx r) v∧g.le g'∧(∀ b,g.Z b→w'.heap[b]?=w.heap[b]?)∧((rows'.length=L.length + 1→L.contains d=false)→Inv X e g' w' (calH hp H (wl d L rows') (rnR nx L rows')) (VA V L rows' nx) (fzA fs fz r rows')):=by
 have hrow:∀ (i:Nat) (r:Row),(lnt hp fs L)[i]?=some r→∃ s q,L[i]?=some s∧H s=some q∧r=⟨q.ver,q.T,q.k,q.cs.map (cv (frzH hp fs) 6)⟩∧fz.contains s=false∧fs.contains s=false:=fun i r hi=>by
  unfold lnt at hi;rw [List.getElem?_map] at hi;cases hs:L[i]? with
  | none=>rw [hs] at hi;cases hi
  | some s=>
    rw [hs] at hi;obtain ⟨⟨q,hq⟩,h1,h2⟩:=hL.get i s hs;simp only [Option.map_some,hq,lnR,Option.some.injEq] at hi;exact ⟨s,q,rfl,(hLs s (List.mem_of_getElem? hs)) ▸ hq,hi.symm,h1,h2⟩
 have hzlt:∀ b,Zf g hp fs b→b < w.heap.size:=fun b hb=>by
  rcases hb with hb | ⟨s,r,hs,hk,rfl⟩
  ·exact h.zlt b hb
  ·exact h.blk _ (h.frz fs hfs s r hs).1.1 hk
 have hout:∀ s q,H s=some q→fz.contains s=false→fs.contains s=false→g.ka q.ver≠0→¬ Zf g hp fs (g.mu q.ver):=fun s q hq h1 h2 hk hb=>by
  rcases hb with hb | ⟨t,r,ht,hk',e'⟩
  ·exact h.free s q hq h1 hk hb
  ·obtain ⟨a1,a2,a3⟩:=frzH_some ht
   have:s≠t:=fun e=>by subst e;rw [h2] at a1;cases a1
   exact h.apart s t q r hq ((hfs t a1) ▸ a3) this hk hk' e'
 refine (hac.out ⟨Zf g hp fs,g.A,g.mu,g.ka⟩ w vals nx h.env hzlt (fun u hu=>hVn u (h.ver u hu)) h.blk (hv.map (arg_holds h fs hfs L)) (fun r hr=>?_) (fun i j r q hr hq hij ha hb=>?_)).mono ?_
 ·obtain ⟨i,hi⟩:=List.mem_iff_getElem?.1 hr
  obtain ⟨s,q,hs,hq,rfl,h1,h2⟩:=hrow i r hi;obtain ⟨hA,hrw⟩:=h.row s q hq;have hmap:∀ vs,agL g w q.cs vs→agL ⟨Zf g hp fs,g.A,g.mu,g.ka⟩ w (q.cs.map (cv (frzH hp fs) 6)) vs:=fun vs hv=>agL.up (g:=⟨Zf g hp fs,g.A,g.mu,g.ka⟩) (hv.map (cv_holds (g':=⟨Zf g hp fs,g.A,g.mu,g.ka⟩) (fun b hb=>.inl hb) (h.frz fs hfs) 6))
  refine ⟨⟨hA,hrw.imp (fun h0=>⟨h0.1,by rw [h0.2];rfl⟩) fun ⟨arr,a1,a2,a3,a4⟩=>⟨arr,a1,a2,by simpa using a3,by rw [List.length_map];exact hmap _ a4⟩⟩,fun hk=>⟨hout s q hq h1 h2 hk,?_⟩⟩;intro hd;rcases h.mine s q hq hk with hge | ⟨_,u,hu,eu,hku⟩
  ·have h1:g.mu q.ver < e.w0.heap.size:=h.nd.1 _ hd
   omega
  ·exact h.nd.2 u hu hku (eu ▸ hd)
 ·obtain ⟨s,r0,hs,hr0,rfl,_⟩:=hrow i r hr
  obtain ⟨t,q0,ht,hq0,rfl,_⟩:=hrow j q hq;exact h.apart s t r0 q0 hr0 hq0 (fun e=>hij (hL.inj i j s hs (e ▸ ht))) ha hb
 ·rintro en w' ⟨v,r,rows',G,e1,hC,hh,hGle,hzn,hlen,hver,hrows,hGA,hsz,hkeep,hio,hE⟩
  have hll:(lnt hp fs L).length=L.length:=by simp [lnt]
  rw [hll] at hlen hGA;have hrows:∀ q ∈ rnR nx L rows',rowIn G w' q:=fun q hq=>hrows q (by rwa [rnR_same (M:=L) (by simp [lnt])])
  let Zn:Nat→Prop:=fun b=>if frees r rows'=true then g.Z b else G.Z b
  have hZnG:∀ b,Zn b→G.Z b:=fun b hb=>by
   by_cases hc:frees r rows'=true
   ·simp only [Zn,hc,if_true] at hb;exact hGle.z b (.inl hb)
   ·simp only [Zn,hc] at hb;exact hb
  have hgZn:∀ b,g.Z b→Zn b:=fun b hb=>by
   by_cases hc:frees r rows'=true
   ·simp only [Zn,hc,if_true];exact hb
   ·simp only [Zn,hc];exact hGle.z b (.inl hb)
  have hGa:∀ u,g.A u→G.A u∧G.mu u=g.mu u∧G.ka u=g.ka u:=fun u hu=>hGle.a u hu
  have hle:g.le ⟨Zn,G.A,G.mu,G.ka⟩:=⟨hgZn,hGa⟩;have hother:∀ t q,H t=some q→t ∉ L→g.ka q.ver≠0→w'.heap[g.mu q.ver]?=w.heap[g.mu q.ver]?:=fun t q hq ht hk=>by
   refine hkeep _ (h.blk _ (h.row t q hq).1 hk) fun r' hr' hk' e'=>?_
   obtain ⟨i,hi⟩:=List.mem_iff_getElem?.1 hr';obtain ⟨s,q',hs,hq',rfl,_⟩:=hrow i r' hi;exact h.apart t s q q' hq hq' (fun e=>ht (e ▸ List.mem_of_getElem? hs)) hk hk' e'
  have hZ:∀ b,g.Z b→w'.heap[b]?=w.heap[b]?:=fun b hb=>hkeep b (h.zlt b hb) fun r' hr' hk' e'=>by
   obtain ⟨i,hi⟩:=List.mem_iff_getElem?.1 hr';obtain ⟨s,q',hs,hq',rfl,h1,h2⟩:=hrow i r' hi;exact h.free s q' hq' h1 hk' (e' ▸ hb)
  have hh':holds ⟨Zn,G.A,G.mu,G.ka⟩ w' (ren d nx r) v:=by
   have hh:=holds_ren (d':=d) r v hh;by_cases hc:frees r rows'=true
   ·have hf:fl r=true:=by unfold frees at hc;rw [Bool.and_eq_true] at hc;exact hc.1
    exact fl_holds (ren_fl hf) hh Zn
   ·have:Zn=G.Z:=by funext b;simp only [Zn,hc];rfl
    rw [this];exact hh
  have hrows':∀ q ∈ rnR nx L rows',rowIn ⟨Zn,G.A,G.mu,G.ka⟩ w' q:=fun q hq=>by
   have h0:=hrows q hq;by_cases hc:frees r rows'=true
   ·have hf:q.cs.all fl0=true:=by
     unfold frees at hc;rw [Bool.and_eq_true] at hc;obtain ⟨p,hp1,hp2⟩:=rnR_mem hq;rw [hp2];exact List.all_eq_true.1 hc.2 p hp1
    exact ⟨h0.1,h0.2.imp id fun ⟨arr,a1,a2,a3,a4⟩=>⟨arr,a1,a2,a3,fl0s_holds Zn hf a4⟩⟩
   ·have:Zn=G.Z:=by funext b;simp only [Zn,hc];rfl
    rw [this];exact h0
  refine ⟨v,r,rows',⟨Zn,G.A,G.mu,G.ka⟩,e1,hC,hlen,hh',hle,hZ,fun hd=>?_⟩;obtain ⟨hwl,hget⟩:= @rnR_get d nx L rows' hlen;have hnew:∀ t q,calH hp H (wl d L rows') (rnR nx L rows') t=some q→(∃ q0,H t=some q0∧q.ver=q0.ver∧t ∈ L∧q ∈ rnR nx L rows'∧fz.contains t=false∧fs.contains t=false)∨(rows'.length=L.length + 1∧t=d∧q.ver=nx∧q ∈ rnR nx L rows')∨(t ∉ wl d L rows'∧H t=some q):=fun t q hq=>by
   unfold calH at hq;by_cases htL:(wl d L rows').contains t=true
   case neg=>rw [if_neg htL] at hq;exact .inr (.inr ⟨by simpa using htL,hq⟩)
   rw [if_pos htL] at hq;rcases lookR_putRs (wl d L rows') (rnR nx L rows') hp t q hq with ⟨i,h1,h2⟩ | ⟨h1,h2⟩
   ·rcases hget i t q h1 h2 with ⟨h3,h4⟩ | ⟨h3,h4,h5,h6,_⟩
    ·left
     obtain ⟨⟨q0,hq0⟩,h5,h6⟩:=hL.get i t h3;refine ⟨q0,(hLs t (List.mem_of_getElem? h3)) ▸ hq0,?_,List.mem_of_getElem? h3,List.mem_of_getElem? h2,h5,h6⟩;exact hver i ⟨q0.ver,q0.T,q0.k,q0.cs.map (cv (frzH hp fs) 6)⟩ q (by simp [lnt,h3,hq0,lnR]) h4
    ·exact .inr (.inl ⟨h3,h4,h5,h6⟩)
   ·exact absurd (by simpa using htL) (h1.resolve_right (by omega))
  have hLwl:∀ t,t ∈ L→t ∈ wl d L rows':=by
   have key:∀ (L:List Nat) (rows:List Row) (t:Nat),t ∈ L→t ∈ wl d L rows:=by
    intro L
    induction L with
    | nil=>intro rows t ht;cases ht
    | cons s L ih=>
      intro rows t ht;cases rows with
      | nil=>exact ht
      | cons r rs=>
        rcases List.mem_cons.1 ht with rfl | ht
        ·exact List.mem_cons_self ..
        ·exact List.mem_cons_of_mem _ (ih rs t ht)
   exact key L rows'
  have hdwl:rows'.length=L.length + 1→d ∈ wl d L rows':=by
   have key:∀ (L:List Nat) (rows:List Row),rows.length=L.length + 1→d ∈ wl d L rows:=by
    intro L
    induction L with
    | nil=>
      intro rows hr;cases rows with
      | nil=>simp at hr
      | cons r rs=>exact List.mem_singleton.2 rfl
    | cons s L ih=>
      intro rows hr;cases rows with
      | nil=>simp at hr
      | cons r rs=>exact List.mem_cons_of_mem _ (ih rs (by simpa using hr))
   exact key L rows'
  have hold:∀ t q,calH hp H (wl d L rows') (rnR nx L rows') t=some q→(∃ q0,H t=some q0∧q.ver=q0.ver∧(t=d→rows'.length≠L.length + 1)∧G.mu q.ver=g.mu q0.ver∧G.ka q.ver=g.ka q0.ver)∨(rows'.length=L.length + 1∧t=d∧q.ver=nx∧(G.ka nx≠0→w.heap.size≤G.mu nx∧G.mu nx < w'.heap.size∧¬ G.Z (G.mu nx))):=fun t q hq=>by
   rcases hnew t q hq with ⟨q0,h1,h2,h3,_⟩ | ⟨h1,h2,h3,h4⟩ | ⟨h1,h2⟩
   ·have:=hGa _ (h.row t q0 h1).1
    refine .inl ⟨q0,h1,h2,fun e hn=>?_,by rw [h2];exact this.2.1,by rw [h2];exact this.2.2⟩;have:=hd hn;subst e;simp at this;exact this h3
   ·refine .inr ⟨h1,h2,h3,?_⟩
    have hA:G.A nx:=h3 ▸ (hrows q h4).1;rcases hGA nx hA with ho | ⟨_,_,ho⟩
    ·exact absurd (hVn nx (h.ver nx ho)) (Nat.lt_irrefl _)
    ·exact ho
   ·have:=hGa _ (h.row t q h2).1
    exact .inl ⟨q,h2,rfl,fun e hn=>h1 (e ▸ hdwl hn),this.2⟩
  refine ⟨h.le.trans hle,fun t q hq=>?_,fun t u q p hq hp' htu ha hb=>?_,fun t q hq hz hk hb=>?_,fun t q hq hk=>?_,fun u hu=>?_,fun u hu hk=>?_,fun b hb=>?_,fun b hb=>?_,fun b hb hl=>?_,Nat.le_trans h.size hsz,⟨hio.1.trans h.io.1,hio.2.1.trans h.io.2.1,hio.2.2.trans h.io.2.2⟩,hE,h.nd⟩
  ·rcases hnew t q hq with ⟨q0,h1,h2,h3,h4,_⟩ | ⟨_,_,_,h4⟩ | ⟨h0,h1⟩
   ·exact hrows' q h4
   ·exact hrows' q h4
   ·exact (h.row t q h1).mono hle hZ fun hk=>hother t q h1 (fun hl=>h0 (hLwl t hl)) hk
  ·rcases hold t q hq with ⟨q0,h1,_,h2,h3,h4⟩ | ⟨n1,rfl,n3,n4⟩ <;> rcases hold u p hp' with ⟨p0,k1,_,k2,k3,k4⟩ | ⟨m1,rfl,m3,m4⟩
   ·rw [h4] at ha
    rw [k4] at hb;rw [h3,k3];exact h.apart t u q0 p0 h1 k1 htu ha hb
   ·rw [h4] at ha
    rw [m3] at hb;rw [h3,m3];have:=h.blk _ (h.row t q0 h1).1 ha;have:=(m4 hb).1
    show g.mu q0.ver≠G.mu nx
    omega
   ·rw [n3] at ha
    rw [k4] at hb;rw [n3,k3];have:=h.blk _ (h.row u p0 k1).1 hb;have:=(n4 ha).1
    show G.mu nx≠g.mu p0.ver
    omega
   ·exact absurd rfl htu
  ·rcases hold t q hq with ⟨q0,h1,_,h2,h3,h4⟩ | ⟨n1,rfl,n3,n4⟩
   ·simp only [h3] at hb
    simp only [h4] at hk;by_cases hc:frees r rows'=true
    ·simp only [Zn,hc,if_true] at hb
     simp only [fzA,hc,if_true] at hz;exact h.free t q0 h1 hz hk hb
    ·simp only [Zn,hc] at hb
     simp only [fzA,hc] at hz;have hz1:fz.contains t=false∧fs.contains t=false:=by
      simp only [List.contains_eq_mem,List.mem_append,decide_eq_false_iff_not,not_or] at hz ⊢;simp at hz ⊢;exact ⟨hz.2,hz.1⟩
     rcases hzn _ hb with hb | hb
     ·exact hout t q0 h1 hz1.1 hz1.2 hk hb
     ·have:=h.blk _ (h.row t q0 h1).1 hk;omega
   ·simp only [n3] at hk hb
    exact (n4 hk).2.2 (hZnG _ hb)
  ·rcases hold t q hq with ⟨q0,h1,_,h2,h3,h4⟩ | ⟨n1,rfl,n3,n4⟩
   ·simp only [h3]
    simp only [h4] at hk;exact h.mine t q0 h1 hk
   ·simp only [n3] at hk ⊢
    exact .inl (Nat.le_trans h.size (n4 hk).1)
  ·rcases hGA u hu with ho | ⟨ho,hn,_⟩
   ·exact .inl (h.ver u ho)
   ·exact .inr ⟨ho,hn⟩
  ·rcases hGA u hu with ho | ⟨ho,rfl,hn⟩
   ·have:=(hGa u ho).2
    simp only [this.2] at hk;simp only [this.1];exact Nat.lt_of_lt_of_le (h.blk u ho hk) hsz
   ·exact (hn hk).2.1
  ·rcases hzn b (hZnG b hb) with hb | hb
   ·exact Nat.lt_of_lt_of_le (hzlt b hb) hsz
   ·exact hb.2
  ·rcases hzn b (hZnG b hb) with (hb | ⟨s,r0,hs,hk,rfl⟩) | hb
   ·exact h.znew b hb
   ·obtain ⟨a1,a2,a3⟩:=frzH_some hs
    rcases h.mine s r0 ((hfs s a1) ▸ a3) hk with hge | ⟨h10,_⟩
    ·exact .inr hge
    ·omega
   ·exact .inr (Nat.le_trans h.size hb.1)
  ·refine (hkeep b (Nat.lt_of_lt_of_le hb h.size) fun r' hr' hk' e'=>?_).trans (h.keep b hb hl)
   obtain ⟨i,hi⟩:=List.mem_iff_getElem?.1 hr';obtain ⟨s,q',hs,hq',rfl,_⟩:=hrow i r' hi;rcases h.mine s q' hq' hk' with hge | ⟨_,u,hu,eu,hku⟩
   ·have e':b=g.mu q'.ver:=e'
    omega
   ·exact hl u hu hku (e'.trans eu)
end
def gsv (fr:List (Nat × SV)):Option Tmp→SV
 | some d=>look fr d
 | none=>.v undef
def gst (b:Bool) (T E:Prop):SV→Prop
 | .v (.bool c)=>(c=b→T)∧(c= !b→E)
 | .v (.tuple _)=>E
 | _=>False
def AS.up (σ:AS) (dst:Option Tmp) (R:Rs):AS:=⟨putF σ.fr R.r dst,putW σ.hp R.wr,nxW σ.nx R.wr,σ.fz,σ.N⟩
def nxA (nx:Nat):List Nat→List Row→Nat
 | [],_ :: _=>nx + 1
 | _ :: L,_ :: rs=>nxA nx L rs
 | _,[]=>nx
theorem nxA_eq {nx:Nat}:∀ {L:List Nat} {rows:List Row},(rows.length=L.length∨rows.length=L.length + 1)→(rows.length=L.length∧nxA nx L rows=nx)∨(rows.length=L.length + 1∧nxA nx L rows=nx + 1)
 | [],[],_=>.inl ⟨rfl,rfl⟩
 | [],[_],_=>.inr ⟨rfl,rfl⟩
 | [],_ :: _ :: _,h=>by simp at h
 | _ :: _,[],h=>by simp at h
 | _ :: L,_ :: rs,h=>by simpa [nxA] using @nxA_eq nx L rs (by simpa using h)
def AS.called (σ:AS) (dst:Option Tmp) (fs L:List Nat) (r:SV) (rows:List Row):AS:=⟨putF σ.fr (ren (dst.getD 0) σ.nx r) dst,putRs σ.hp (wl (dst.getD 0) L rows) (rnR σ.nx L rows),nxA σ.nx L rows,fzA fs σ.fz r rows,σ.N⟩
def nob (ck:List Nat→List Nat→Prop) (d:Nat) (fs L0:List Nat):List Nat→List Row→Prop
 | [],_ :: _=>L0.contains d=false∧ck fs (L0 ++ [d])
 | _ :: L,_ :: rs=>nob ck d fs L0 L rs
 | _,[]=>True
theorem nob.get {ck:List Nat→List Nat→Prop} {d:Nat} {fs L0:List Nat}:∀ {L:List Nat} {rows:List Row},nob ck d fs L0 L rows→rows.length=L.length + 1→(L0.contains d=false∧ck fs (L0 ++ [d]))∧wl d L rows=L ++ [d]
 | [],[],_,hl=>by simp at hl
 | [],[_],h,_=>⟨h,rfl⟩
 | [],_ :: _ :: _,_,hl=>by simp at hl
 | _ :: _,[],_,hl=>by simp at hl
 | s :: L,_ :: rs,h,hl=>by
   have:=nob.get (L:=L) (rows:=rs) h (by simpa using hl);exact ⟨this.1,by simp [wl,this.2]⟩
theorem wl_same {d:Nat}:∀ {L:List Nat} {rows:List Row},rows.length=L.length→wl d L rows=L
 | [],[],_=>rfl
 | [],_ :: _,h=>by simp at h
 | _ :: _,[],h=>by simp at h
 | s :: L,_ :: rs,h=>by simp only [wl];rw [wl_same (by simpa using h)]
def fnOf:SV→Option FuncId
 | .v (.func (.func f) fi ca)=>if fi=#[]∧ca=#[] then some f else none
 | _=>none
def cal (P:Program) (X:Ev) (ck:List Nat→List Nat→Prop) (K:AS→List Nat→List Nat→Prop) (dst:Option Tmp) (σ:AS) (args:List SV):Option FuncId→Prop
 | some f=>dOk σ.N dst∧∃ (fs L:List Nat) (C:SV→List Row→Prop),AC P X f (args.map (arg σ.hp fs L)) (lnt σ.hp fs L) C∧lntOk σ.hp σ.fz fs L∧ck fs L∧∀ r rows,C r rows→(rows.length=L.length∨rows.length=L.length + 1)→nob ck (dst.getD 0) fs L L rows∧K (σ.called dst fs L r rows) fs (wl (dst.getD 0) L rows)
 | none=>False
def wrs:Option (Nat × Row)→List Nat
 | some (s,_)=>[s]
 | none=>[]
def one (P:Program) (X:Ev) (ck:List Nat→List Nat→Prop) (K:AS→List Nat→List Nat→Prop) (dst:Option Tmp) (σ:AS):Op→Prop
 | .call ⟨.value f,args,_⟩=>cal P X ck K dst σ (args.toList.map (ev σ.fr)) (fnOf (ev σ.fr f))
 | op=>(exec P (dst.getD 0) σ.fz (ev σ.fr) (lookR σ.hp) σ.nx op).p∧dOk σ.N dst∧ck (exec P (dst.getD 0) σ.fz (ev σ.fr) (lookR σ.hp) σ.nx op).rd (wrs (exec P (dst.getD 0) σ.fz (ev σ.fr) (lookR σ.hp) σ.nx op).wr)∧K (σ.up dst (exec P (dst.getD 0) σ.fz (ev σ.fr) (lookR σ.hp) σ.nx op)) (exec P (dst.getD 0) σ.fz (ev σ.fr) (lookR σ.hp) σ.nx op).rd (wrs (exec P (dst.getD 0) σ.fz (ev σ.fr) (lookR σ.hp) σ.nx op).wr)
def noCk (_ _:List Nat):Prop:=True
def fvO (P:Program) (T U:TypeId):SV→Option ((Value→Prop)→Prop)
 | .v (.float k n)=>some fun K=>∃ C:Value→Prop,(∀ W:World,∃ v W',(convert T U (.float k n)).run P W=.ok v W'∧(W'=W∨W'=W.drew)∧C v)∧∀ v,C v→K v
 | _=>none
def nlO (P:Program) (T:TypeId):BinOp→SV→SV→Option ((Value→Prop)→Prop)
 | .eql,.sl _ _ cs,.v (.slice none 0 0)=>some fun K=>(elT (P.underlying T)).isSome=true∧∀ b:Bool,(cs.length≠0→b=false)→K (.bool b)
 | .neq,.sl _ _ cs,.v (.slice none 0 0)=>some fun K=>(elT (P.underlying T)).isSome=true∧∀ b:Bool,(cs.length≠0→b=true)→K (.bool b)
 | _,_,_=>none
def opn (P:Program) (e:Operand→SV):Op→Option ((Value→Prop)→Prop)
 | .convert T U x=>fvO P T U (e x)
 | .binOp op T x y _=>nlO P T op (e x) (e y)
 | _=>none
def onO (K:AS→List Nat→List Nat→Prop) (dst:Option Tmp) (σ:AS) (p:Prop):Option ((Value→Prop)→Prop)→Prop
 | some f=>dOk σ.N dst∧f fun v=>K ⟨putF σ.fr (.v v) dst,σ.hp,σ.nx,σ.fz,σ.N⟩ [] []
 | none=>p
def oneO (P:Program) (X:Ev) (K:AS→List Nat→List Nat→Prop) (dst:Option Tmp) (σ:AS) (op:Op):Prop:=onO K dst σ (one P X noCk K dst σ op) (opn P (ev σ.fr) op)
def chain (P:Program) (X:Ev) (ops:Array Oper) (K:AS→Prop):List Oper→AS→List Nat→List Nat→Prop
 | [],σ,_,_=>K σ
 | o :: os,σ,_,_=>match o.guard with
   | none=>oneO P X (chain P X ops K os) o.dst σ o.op
   | some (j,b)=>gst b (oneO P X (chain P X ops K os) o.dst σ o.op) (dOk σ.N o.dst∧chain P X ops K os ⟨putF σ.fr (.v undef) o.dst,σ.hp,σ.nx,σ.fz,σ.N⟩ [] []) (gsv σ.fr ((ops[j]?).bind (·.dst)))
section
variable {P:Program} {X:Ev} {e:En}
theorem frame_mono {g g':Cx} {w w':World} {fr:List (Nat × SV)} {a:Act} (h:∀ d,holds g w (look fr d) (a.tmps.getD d undef)) (hg:g.le g') (hZ:∀ b,g.Z b→w'.heap[b]?=w.heap[b]?):∀ d,holds g' w' (look fr d) (a.tmps.getD d undef):=
 fun d=>holds.mono hg hZ _ _ (h d)
theorem det_wp {g:Cx} {w:World} {o:Oper} {a:Act} {d nx:Nat} {sv:Operand→SV} {H H':Nat→Option Row} {V V':Nat→Prop} {fz fz':List Nat} {Q:Exit→Act→World→Prop} {next:Act→World→Prop} (hops:∀ x ∈ o.op.operands,holds g w (sv x) (a.eval x)) (hI:Inv X e g w H V fz) {R:Rs} (hR:exec P d fz' sv H' nx o.op=R) (hp:R.p)
 (hH:∀ u,(u ∈ R.rd∨∃ r',R.wr=some (u,r'))→H' u=H u) (hz:∀ u r',R.wr=some (u,r')→fz'.contains u=false→fz.contains u=false) (hn:R.wr≠none→¬ g.A nx) (hV:∀ u,V u→V' u) (hVn:R.wr≠none→V' nx)
 (hk:∀ v w' g',holds g' w' R.r v→Inv X e g' w' (putH H R.wr) V' fz→g.le g'→(∀ b,g.Z b→w'.heap[b]?=w.heap[b]?)→next (a.put o.dst v) w'):o.wp P a w next Q:=by
 subst hR;have:=exec_eff (P:=P) (o:=o) (ρ:=a.eval) (d:=d) hops hn hI.zlt (hI.rows _ hH hz) hp;obtain ⟨v,w',g',h1,h2,h3,h4,h5⟩:=hI.step this (fun u r' h=>hH u (.inr ⟨r',h⟩)) hz hV hVn;have:=hk v w' g' h2 h3 h4 h5;unfold Oper.wp;rcases h1 with h1 | ⟨h1,rfl⟩
 ·rw [h1];exact this
 ·rw [h1];exact this
theorem fnOf_val {s:SV} {n:FuncId} {g:Cx} {w:World} {v:Value} (h:fnOf s=some n) (hv:holds g w s v):v=.func (.func n) #[] #[]:=by
 unfold fnOf at h
 split at h
 ·split at h
  ·rename_i hc
   cases h
   rw [hc.1,hc.2] at hv;exact hv
  ·cases h
 ·cases h
theorem cal_wp {g:Cx} {w:World} {o:Oper} {a:Act} {sv:Operand→SV} {hp:List (Nat × Row)} {H:Nat→Option Row} {V:Nat→Prop} {fz fs L:List Nat} {nx:Nat} {Q:Exit→Act→World→Prop} {next:Act→World→Prop} {f:Operand} {args:Array Operand} {ts:Array TypeId} {n:FuncId} {C:SV→List Row→Prop} (ho:o.op=.call ⟨.value f,args,ts⟩) (hops:∀ x ∈ o.op.operands,holds g w (sv x) (a.eval x)) (hI:Inv X e g w H V fz) (hf:fnOf (sv f)=some n) (hac:AC P X n ((args.toList.map sv).map (arg hp fs L)) (lnt hp fs L) C) (hL:lntOk hp fz fs L)
 (hfs:∀ s,fs.contains s=true→lookR hp s=H s) (hLs:∀ s ∈ L,lookR hp s=H s) (hVn:∀ u,V u→u < nx) (d:Nat) (hk:∀ v w' g' r rows,C r rows→(rows.length=L.length∨rows.length=L.length + 1)→holds g' w' (ren d nx r) v→((rows.length=L.length + 1→L.contains d=false)→Inv X e g' w' (calH hp H (wl d L rows) (rnR nx L rows)) (VA V L rows nx) (fzA fs fz r rows))→g.le g'→(∀ b,g.Z b→w'.heap[b]?=w.heap[b]?)→next (a.put o.dst v) w'):o.wp P a w next Q:=by
 have hfv:a.eval f=.func (.func n) #[] #[]:=fnOf_val hf (hops f (by rw [ho];simp [Op.operands,Call.operands]));have hvals:agL g w (args.toList.map sv) (args.toList.map a.eval):=by
  have hm:∀ x ∈ args.toList,holds g w (sv x) (a.eval x):=fun x hx=>hops x (by rw [ho];simp [Op.operands,Call.operands];right;simpa using hx)
  generalize args.toList=l at hm
  induction l with
  | nil=>trivial
  | cons x l ih=>exact ⟨hm x (List.mem_cons_self ..),ih fun y hy=>hm y (List.mem_cons_of_mem _ hy)⟩
 have hr:∀ {nx W'},(callFunc n (args.toList.map a.eval).toArray).run P w=.ok nx W'→(execOp a.eval o).run P w=.ok nx W':=fun {nx W'} h=>by
  have hmap:args.map a.eval=(args.toList.map a.eval).toArray:=by rw [← Array.toList_inj];simp
  simp only [execOp,ho,resolve,hfv,Deferred.ofValue,Sem.run_bind,Sem.run_pure,Result.andThen_ok,invoke,hmap];simpa using h
 unfold Oper.wp;rcases hI.call d hVn fs L hac hvals hL hfs hLs with ⟨hgo,hc⟩ | ⟨v,w',hgo,v',r,rows',g',e1,hC,hlen,hh,hle,hZ,hI'⟩
 ·rw [hr hgo]
  refine Calls.mono hc ?_;rintro en w' ⟨v,r,rows',g',rfl,hC,hlen,hh,hle,hZ,hI'⟩;exact hk v w' g' r rows' hC hlen hh hI' hle hZ
 ·rw [hr hgo]
  cases e1
  exact hk v w' g' r rows' hC hlen hh hI' hle hZ
theorem calH_seq {hp:List (Nat × Row)} {L:List Nat} {rows:List Row} (hlen:rows.length=L.length):calH hp (lookR hp) L rows=lookR (putRs hp L rows):=by
 funext t
 unfold calH
 split
 ·rfl
 ·rename_i h
  have key:∀ (L:List Nat) (rows:List Row) (hp:List (Nat × Row)),t ∉ L→lookR (putRs hp L rows) t=lookR hp t:=by
   intro L
   induction L with
   | nil=>intro rows hp _;cases rows <;> rfl
   | cons s L ih=>
     intro rows hp ht;cases rows with
     | nil=>rfl
     | cons r rs=>
       simp only [List.mem_cons,not_or] at ht;simp only [putRs,ih rs _ ht.2,lookR_putR,Ne.symm ht.1,if_false]
  exact (key L rows hp (by simpa using h)).symm
theorem one_wp {ck:List Nat→List Nat→Prop} {K:AS→List Nat→List Nat→Prop} {o:Oper} {σ:AS} {a:Act} {w:World} {Q:Exit→Act→World→Prop} {next:Act→World→Prop} (h:one P X ck K o.dst σ o.op) (hr:Rel X e σ a w) (hn:∀ σ' rd wr a' w',K σ' rd wr→Rel X e σ' a' w'→next a' w'):o.wp P a w next Q:=by
 obtain ⟨hd,hs,g,hf,hI⟩:=hr;have key:∀ (R:Rs),exec P (o.dst.getD 0) σ.fz (ev σ.fr) (lookR σ.hp) σ.nx o.op=R→R.p→dOk σ.N o.dst→K (σ.up o.dst R) R.rd (wrs R.wr)→o.wp P a w next Q:=fun R e1 hp hk hK=>by
  refine det_wp (V':=(· < nxW σ.nx R.wr)) (fun x _=>Rel.ev hf x) hI e1 hp (fun _ _=>rfl) (fun _ _ _ h=>h) (fun _ hA=>Nat.lt_irrefl _ (hI.ver _ hA)) (fun u hu=>?_) (fun hw=>?_) fun v w' g' h2 h3 h4 h5=>?_
  ·show u < nxW σ.nx R.wr
   cases R.wr with
   | none=>exact hu
   | some x=>exact Nat.lt_succ_of_lt hu
  ·show σ.nx < nxW σ.nx R.wr
   cases hw':R.wr with
   | none=>exact absurd hw' hw
   | some x=>exact Nat.lt_succ_self _
  ·have hput:=put_rel (frame_mono hf h4 h5) hs hk h2
   exact hn _ _ _ _ _ hK ⟨hput.1.trans hd,hput.2.1,g',hput.2.2,by
    show Inv X e g' w' (lookR (putW σ.hp _)) _ _
    rw [lookR_putW];exact h3⟩
 have hcall:∀ f args ts,o.op=.call ⟨.value f,args,ts⟩→cal P X ck K o.dst σ (args.toList.map (ev σ.fr)) (fnOf (ev σ.fr f))→o.wp P a w next Q:=fun f args ts ho h=>by
  cases hfn:fnOf (ev σ.fr f) with
  | none=>rw [hfn] at h;exact h.elim
  | some n=>
    rw [hfn] at h;obtain ⟨hk,fs,L,C,hac,hL,_,hK⟩:=h;refine cal_wp ho (fun x _=>Rel.ev hf x) hI hfn hac hL (fun _ _=>rfl) (fun _ _=>rfl) (fun _ h=>h) (o.dst.getD 0) fun v w' g' r rows hC hlen hh hI' hle hZ=>?_
    have hput:=put_rel (frame_mono hf hle hZ) hs hk hh;obtain ⟨hN,hK'⟩:=hK r rows hC hlen;have hI2:=hI' fun hl=>(hN.get hl).1.1
    refine hn _ _ _ _ _ hK' ⟨hput.1.trans hd,hput.2.1,g',hput.2.2,?_⟩;rw [calH_seq (rnR_get hlen).1.symm] at hI2;refine { hI2 with ver:=fun u hu=>?_ }
    show u < nxA σ.nx L rows
    rcases nxA_eq (nx:=σ.nx) hlen with ⟨_,h1⟩ | ⟨_,h1⟩ <;> rcases hI2.ver u hu with h2 | ⟨h2,h3⟩ <;> rw [h1] <;> omega
 cases hop:o.op with
 | call c=>
   rw [hop] at h;obtain ⟨callee,args,ts⟩:=c;cases callee with
   | value f=>exact hcall f args ts hop h
   | invoke r m=>exact key _ (by rw [hop]) h.1 h.2.1 h.2.2.2
   | builtin b=>exact key _ (by rw [hop]) h.1 h.2.1 h.2.2.2
 | _=>rw [hop] at h;exact key _ (by rw [hop]) h.1 h.2.1 h.2.2.2
theorem Rel.drew {σ:AS} {a:Act} {w:World} (h:Rel X e σ a w):Rel X e σ a w.drew:=by
 obtain ⟨hd,hs,g,hf,hI⟩:=h;have hle:=Cx.le.refl g;refine ⟨hd,hs,g,fun d=>holds.mono (w:=w) (w':=w.drew) hle (fun _ _=>rfl) _ _ (hf d),⟨hI.le,fun s r hs=>rowIn.mono (w:=w) (w':=w.drew) hle (fun _ _=>rfl) (hI.row s r hs) fun _=>rfl,hI.apart,hI.free,hI.mine,hI.ver,hI.blk,hI.zlt,hI.znew,hI.keep,hI.size,hI.io,X.st w w.drew (Nat.le_refl w.heap.size) hI.env fun _ _=>rfl,hI.nd⟩⟩
theorem run_equal_nil {T t:TypeId} (hT:P.underlying T=some (.slice t)) (a:Option Addr) (n c:Nat) (W:World):(Op.equal T (.slice a n c) (.slice none 0 0)).run P W=.ok a.isNone W:=by
 unfold Op.equal;rw [show Op.maxDepth=9999 + 1 from rfl];unfold Op.equalIn;cases a <;> simp only [Sem.run_bind,run_und,hT,Result.andThen_ok,Sem.run_pure] <;> rfl
theorem put_wp {σ:AS} {o:Oper} {a:Act} {w w':World} {v:Value} {K:AS→List Nat→List Nat→Prop} {Q:Exit→Act→World→Prop} {next:Act→World→Prop} (hr:Rel X e σ a w') (hd:dOk σ.N o.dst) (hx:(execOp a.eval o).run P w=.ok (.value v) w') (hK:K ⟨putF σ.fr (.v v) o.dst,σ.hp,σ.nx,σ.fz,σ.N⟩ [] []) (hn:∀ σ' rd wr a' w',K σ' rd wr→Rel X e σ' a' w'→next a' w'):o.wp P a w next Q:=by
 unfold Oper.wp;rw [hx];obtain ⟨hdf,hs,g,hf,hI⟩:=hr;have hput:=put_rel hf hs hd (show holds g w' (.v v) v from rfl);exact hn _ _ _ _ _ hK ⟨hput.1.trans hdf,hput.2.1,g,hput.2.2,hI⟩
theorem oneO_wp {K:AS→List Nat→List Nat→Prop} {o:Oper} {σ:AS} {a:Act} {w:World} {Q:Exit→Act→World→Prop} {next:Act→World→Prop} (h:oneO P X K o.dst σ o.op) (hr:Rel X e σ a w) (hn:∀ σ' rd wr a' w',K σ' rd wr→Rel X e σ' a' w'→next a' w'):o.wp P a w next Q:=by
 unfold oneO at h;cases ho:opn P (ev σ.fr) o.op with
 | none=>rw [ho] at h;exact one_wp h hr hn
 | some f=>
   rw [ho] at h;have h2:dOk σ.N o.dst∧f fun v=>K ⟨putF σ.fr (.v v) o.dst,σ.hp,σ.nx,σ.fz,σ.N⟩ [] []:=h
   clear h;obtain ⟨hd,h⟩:=h2;have hev:∀ x,∃ g,holds g w (ev σ.fr x) (a.eval x):=fun x=>by
    obtain ⟨_,_,g,hf,_⟩:=hr;exact ⟨g,Rel.ev hf x⟩
   unfold opn at ho
   split at ho
   ·rename_i T U x hop
    obtain ⟨g,hx⟩:=hev x;unfold fvO at ho
    split at ho
    ·rename_i k n he
     cases ho
     rw [he] at hx;have hx:a.eval x=.float k n:=hx;obtain ⟨C,h1,h2⟩:=h;obtain ⟨v,W',h3,h4,h5⟩:=h1 w;have hr':Rel X e σ a W':=by rcases h4 with rfl | rfl;exact hr;exact hr.drew
     exact put_wp hr' hd (by simp only [execOp,hop,hx,Sem.run_bind,h3,Result.andThen_ok,Sem.run_pure]) (h2 v h5) hn
    ·cases ho
   ·rename_i op T x y U hop
    obtain ⟨g,hx⟩:=hev x;obtain ⟨g',hy⟩:=hev y;have key:∀ n k cs,ev σ.fr x=.sl n k cs→ev σ.fr y=.v (.slice none 0 0)→(elT (P.underlying T)).isSome=true→∃ b:Bool,(cs.length≠0→b=false)∧(Op.equal T (a.eval x) (a.eval y)).run P w=.ok b w∧a.eval y=.slice none 0 0∧∃ ad n c,a.eval x=.slice ad n c:=fun n k cs e1 e2 hT=>by
     rw [e1] at hx;rw [e2] at hy;have hy:a.eval y=.slice none 0 0:=hy;obtain ⟨ad,c,e3,_,_,hc⟩:=hx;obtain ⟨t,ht⟩:∃ t,P.underlying T=some (.slice t):=by
      cases hu:P.underlying T with
      | none=>rw [hu] at hT;cases hT
      | some d=>rw [hu] at hT;cases d <;> first | exact ⟨_,rfl⟩ | cases hT
     refine ⟨ad.isNone,fun hne=>?_,by rw [e3,hy];exact run_equal_nil ht _ _ _ _,hy,ad,n,c,e3⟩;rcases hc with hc | ⟨b,off,rfl,_⟩
     ·exact absurd hc hne
     ·rfl
    unfold nlO at ho
    split at ho
    ·rename_i n k cs e1 e2
     cases ho
     obtain ⟨b,h1,h2,h3,ad,n',c',h4⟩:=key n k cs e1 e2 h.1;rw [h3,h4] at h2;exact put_wp hr hd (by simp [execOp,hop,h3,h4,eqGuard,binOp,h2]) (h.2 b h1) hn
    ·rename_i n k cs e1 e2
     cases ho
     obtain ⟨b,h1,h2,h3,ad,n',c',h4⟩:=key n k cs e1 e2 h.1;rw [h3,h4] at h2;exact put_wp hr hd (by simp [execOp,hop,h3,h4,eqGuard,binOp,h2]) (h.2 (!b) fun hne=>by rw [h1 hne];rfl) hn
    ·cases ho
   ·cases ho
theorem gst_elim {b:Bool} {T E:Prop} {ops:Array Oper} {j:Nat} {o:Oper} {g:Cx} {w:World} {fr:List (Nat × SV)} {a:Act} (ho:o.guard=some (j,b)) (hf:∀ d,holds g w (look fr d) (a.tmps.getD d undef)) (h:gst b T E (gsv fr ((ops[j]?).bind (·.dst)))):
 (Region.wanted o (yielded ops a.tmps)=true∧T)∨(Region.wanted o (yielded ops a.tmps)=false∧E):=by
 have hw:Region.wanted o (yielded ops a.tmps)=(yielded ops a.tmps j==some b):=by simp [Region.wanted,ho]
 rw [hw];unfold yielded;cases hj:(ops[j]?).bind (·.dst) with
 | none=>
   rw [hj] at h;right
   exact ⟨by simp,h⟩
 | some d=>
   rw [hj] at h;have h1:=hf d;rw [Array.getD_eq_getD_getElem?] at h1;simp only [gsv] at h;simp only [Option.bind_some];generalize look fr d=s at h h1;have key:∀ v,holds g w s v→((∃ c,v=.bool c∧(c=b→T)∧(c= !b→E))∨((∀ c,v≠.bool c)∧E)):=fun v hv=>by
    unfold gst at h
    split at h
    ·rename_i c;have hv:v=.bool c:=hv;exact .inl ⟨c,hv,h⟩
    ·rename_i vs;have hv:v=.tuple vs:=hv;subst hv;exact .inr ⟨fun c hc=>(by cases hc),h⟩
    ·exact h.elim
   cases htd:a.tmps[d]? with
   | none=>
     rw [htd] at h1;rcases key _ h1 with ⟨c,hc,_⟩ | ⟨_,h2⟩
     ·cases hc
     ·exact .inr ⟨rfl,h2⟩
   | some v=>
     rw [htd] at h1;rcases key v h1 with ⟨c,rfl,h2,h3⟩ | ⟨h2,h3⟩
     ·by_cases hc:c=b
      ·subst hc;exact .inl ⟨by simp,h2 rfl⟩
      ·have hc2:c= !b:=by cases c <;> cases b <;> simp_all
       exact .inr ⟨by simp [hc],h3 hc2⟩
     ·refine .inr ⟨?_,h3⟩
      cases v <;> first | rfl | exact absurd rfl (h2 _)
theorem chain_wp {ops:Array Oper} {K:AS→Prop} {Q:Exit→Act→World→Prop} (hq:∀ σ a w,K σ→Rel X e σ a w→Q .normal a w):∀ (os:List Oper) (σ:AS) (rd wr:List Nat) (a:Act) (w:World),chain P X ops K os σ rd wr→Rel X e σ a w→wpList P ops Q os a w
 | [],σ,_,_,a,w,h,hr=>hq σ a w h hr
 | o :: os,σ,_,_,a,w,h,hr=>by
   have ih:=chain_wp (ops:=ops) (Q:=Q) hq os;unfold chain at h;unfold wpList;cases hg:o.guard with
   | none=>
     rw [hg] at h;rw [if_pos (by simp [Region.wanted,hg])];exact .inl (oneO_wp h hr fun σ' rd wr a' w' hK hr'=>ih σ' rd wr a' w' hK hr')
   | some jb=>
     obtain ⟨j,b⟩:=jb;rw [hg] at h;have hr2:=hr;obtain ⟨hd,hs,g,hf,hI⟩:=hr;rcases gst_elim hg hf h with ⟨hw,h⟩ | ⟨hw,h⟩
     ·rw [if_pos hw]
      exact .inl (oneO_wp h hr2 fun σ' rd wr a' w' hK hr'=>ih σ' rd wr a' w' hK hr')
     ·rw [if_neg (by simp [hw])]
      have hput:=put_rel hf hs h.1 (show holds g w (.v undef) undef from rfl);exact ih _ _ _ _ _ h.2 ⟨hput.1.trans hd,hput.2.1,g,hput.2.2,hI⟩
def Th (next:AS→Prop) (Q:Exit→AS→Prop):Exit→AS→Prop
 | .normal,σ=>next σ
 | .exit i,σ=>Q (.exit i) σ
 | .goto i,σ=>Q (.goto i) σ
 | .ret,σ=>Q .ret σ
 | .panic c,σ=>Q (.panic c) σ
 | .outgrown,σ=>Q .outgrown σ
def InB (id:Nat) (Q:Exit→AS→Prop):Exit→AS→Prop
 | .exit i,σ=>if i=id then Q .normal σ else Q (.exit i) σ
 | .normal,σ=>Q .normal σ
 | .goto i,σ=>Q (.goto i) σ
 | .ret,σ=>Q .ret σ
 | .panic c,σ=>Q (.panic c) σ
 | .outgrown,σ=>Q .outgrown σ
def cnd (T E:AS→Prop) (σ:AS):SV→Prop
 | .v (.bool b)=>(b=true→T σ)∧(b=false→E σ)
 | _=>False
def AW (P:Program) (X:Ev) (e:En) (c:Code) (Q:Exit→AS→Prop) (σ:AS):Prop:=
 ∀ a w,Rel X e σ a w→c.wp P (fun x a w=>∃ σ',Q x σ'∧Rel X e σ' a w) a w
def rgn (P:Program) (X:Ev) (e:En) (id:Nat) (ops:Array Oper) (K:AS→Prop) (σ:AS) (Q:Exit→AS→Prop):Bool→Prop
 | false=>chain P X ops K ops.toList σ [] []
 | true=>AW P X e (.region id ops true) Q σ
def aw (P:Program) (X:Ev) (e:En):Code→(Exit→AS→Prop)→AS→Prop
 | .skip,Q,σ=>Q .normal σ
 | .region id ops d,Q,σ=>rgn P X e id ops (Q .normal) σ Q d
 | .seq a b,Q,σ=>aw P X e a (Th (aw P X e b Q) Q) σ
 | .cond c t f,Q,σ=>cnd (aw P X e t Q) (aw P X e f Q) σ (ev σ.fr c)
 | .block id b,Q,σ=>aw P X e b (InB id Q) σ
 | .loop b,Q,σ=>AW P X e (.loop b) Q σ
 | .exit id,Q,σ=>Q (.exit id) σ
 | .ret,Q,σ=>Q .ret σ
 | _,_,_=>False
theorem AW.mono {c:Code} {Q Q':Exit→AS→Prop} {σ:AS} (h:AW P X e c Q σ) (hq:∀ x σ,Q x σ→Q' x σ):AW P X e c Q' σ:=
 fun a w hr=>wp_mono (h a w hr) fun _ _ _ ⟨σ',h1,h2⟩=>⟨σ',hq _ _ h1,h2⟩
theorem aw_sound:∀ (c:Code) (Q:Exit→AS→Prop) (σ:AS),aw P X e c Q σ→AW P X e c Q σ
 | .skip,Q,σ,h=>fun a w hr=>wp_skip ⟨σ,h,hr⟩
 | .region id ops true,Q,σ,h=>h
 | .region id ops false,Q,σ,h=>fun a w hr=>wp_region_list (chain_wp (K:=Q .normal) (fun σ a w hK hr=>⟨σ,hK,hr⟩) ops.toList σ [] [] a w h hr)
 | .seq x y,Q,σ,h=>fun a w hr=>by
   have h1:=aw_sound x _ σ h a w hr;refine wp_seq (wp_mono h1 fun en a w ⟨σ',hq,hr'⟩=>?_);cases en with
   | normal=>exact aw_sound y Q σ' hq a w hr'
   | _=>exact ⟨σ',hq,hr'⟩
 | .cond c t f,Q,σ,h=>fun a w hr=>by
   have h0:=hr;obtain ⟨hd,hs,g,hf,hI⟩:=hr;have hc:=Rel.ev hf c;have h:cnd (aw P X e t Q) (aw P X e f Q) σ (ev σ.fr c):=h;generalize ev σ.fr c=s at h hc;unfold cnd at h
   split at h
   ·rename_i b
    have hc:a.eval c=.bool b:=hc;exact wp_cond_split hc (fun hb=>aw_sound t Q σ (h.1 hb) a w h0) (fun hb=>aw_sound f Q σ (h.2 hb) a w h0)
   ·exact h.elim
 | .block id b,Q,σ,h=>fun a w hr=>by
   refine wp_block (wp_mono (aw_sound b _ σ h a w hr) fun en a w ⟨σ',hq,hr'⟩=>?_);cases en with
   | exit i=>
     simp only [InB,Exit.inBlock] at hq ⊢;by_cases hi:i=id
     ·simp only [hi,if_true] at hq ⊢;exact ⟨σ',hq,hr'⟩
     ·simp only [hi,if_false] at hq ⊢;exact ⟨σ',hq,hr'⟩
   | _=>exact ⟨σ',hq,hr'⟩
 | .loop b,Q,σ,h=>h
 | .exit id,Q,σ,h=>fun a w hr=>wp_exit ⟨σ,h,hr⟩
 | .ret,Q,σ,h=>fun a w hr=>wp_ret ⟨σ,h,hr⟩
 | .rangeFunc ..,_,_,h=>h.elim
 | .scope _,_,_,h=>h.elim
 | .label _,_,_,h=>h.elim
 | .goto _,_,_,h=>h.elim
 | .refuse _,_,_,h=>h.elim
theorem least_ex {p:Nat→Prop} (h:∃ n,p n):∃ n,p n∧∀ m,p m→n≤m:=by
 obtain ⟨n,hn⟩:=h
 induction n using Nat.strongRecOn with
 | _ n ih=>
   by_cases hm:∃ m,m < n∧p m
   ·obtain ⟨m,hlt,hp⟩:=hm
    exact ih m hlt hp
   ·exact ⟨n,hn,fun m hp=>Nat.le_of_not_lt fun hlt=>hm ⟨m,hlt,hp⟩⟩
theorem AW.loop {α:Type} (I:α→AS) (μ:α→Nat) {b:Code} {Q:Exit→AS→Prop} {σ:AS} (x0:α) (h0:∀ a w,Rel X e σ a w→Rel X e (I x0) a w) (hr:∀ x,AW P X e b (Th (fun τ=>∃ y,μ y < μ x∧∀ a w,Rel X e τ a w→Rel X e (I y) a w) Q) (I x)):AW P X e (.loop b) Q σ:=fun a w hrel=>by
 classical
 let p:Act→World→Nat→Prop:=fun a w n=>∃ x,μ x=n∧Rel X e (I x) a w
 let ν:Act→World→Nat:=fun a w=>if h:∃ n,p a w n then (least_ex h).choose else 0
 refine wp_loop (fun a w=>∃ x,Rel X e (I x) a w) ν ⟨x0,h0 a w hrel⟩ fun a w hx=>?_
 obtain ⟨x,hx⟩:=hx;have hex:∃ n,p a w n:=⟨_,x,rfl,hx⟩;have hs:=(least_ex hex).choose_spec;have hν:ν a w=(least_ex hex).choose:=by simp only [ν,dif_pos hex]
 obtain ⟨⟨x1,e1,hx1⟩,hmin⟩:=hs;refine wp_mono (hr x1 a w hx1) fun en a' w' ⟨σ',hq,hr'⟩=>?_
 cases en with
 | normal=>
   obtain ⟨y,hlt,hy⟩:=hq;have hy:=hy a' w' hr';refine ⟨⟨y,hy⟩,?_⟩;have hex':∃ n,p a' w' n:=⟨_,y,rfl,hy⟩;have h2:=(least_ex hex').choose_spec.2 (μ y) ⟨y,rfl,hy⟩;have hν':ν a' w'=(least_ex hex').choose:=by simp only [ν,dif_pos hex']
   rw [hν,hν'];omega
 | _=>exact ⟨σ',hq,hr'⟩
end
def retH (hp:List (Nat × Row)) (s:Nat):Option Row:=if s < 1000 then lookR hp s else none
def resS (P:Program) (σ:AS):ResultVar→Prop × SV
 | .tmp t=>(True,look σ.fr t)
 | .cell a T=>((ldV (agT P T) (szT P T) (lookR σ.hp) σ.nx (look σ.fr a)).p,(ldV (agT P T) (szT P T) (lookR σ.hp) σ.nx (look σ.fr a)).r)
def retS:List SV→SV
 | [s]=>s
 | l=>.tup l
def lentC (hp:List (Nat × Row)):List Nat→Nat→Prop
 | [],_=>True
 | v :: l,i=>(lookR hp i).map (·.ver)=some v∧lentC hp l (i + 1)
def lentR (H:Nat→Option Row) (hp:List (Nat × Row)):List Nat→Nat→List Row
 | [],_=>[]
 | _ :: l,i=>lnR H (lookR hp i) :: lentR H hp l (i + 1)
def resP:List (Prop × SV)→Prop
 | []=>True
 | x :: l=>x.1∧resP l
def endK (C:SV→List Row→Prop) (vers:List Nat) (σ:AS) (rs:List (Prop × SV)):Prop:=
 resP rs∧lentC σ.hp vers 1000∧C (cv (retH σ.hp) 6 (retS (rs.map (·.2)))) (lentR (retH σ.hp) σ.hp vers 1000)
def retX (hp:List (Nat × Row)) (s0 s:Nat):Option Row:=if s=s0 then none else retH hp s
def out1 (H:Nat→Option Row) (s0 v0:Nat):SV→SV
 | .own t v n k=>if t=s0∧v=v0 then .own 2000 0 n k else cv H 6 (.own t v n k)
 | .ptr t v o=>if t=s0∧v=v0 then .ptr 2000 0 o else cv H 6 (.ptr t v o)
 | x=>cv H 6 x
def outS (H:Nat→Option Row) (s0 v0:Nat):SV→SV
 | .tup cs=>.tup (cs.map (out1 H s0 v0))
 | x=>out1 H s0 v0 x
def outC (C:SV→List Row→Prop) (H:Nat→Option Row) (s0:Nat) (r:SV) (rows:List Row):Option Row→Prop
 | some q=>C (outS H s0 q.ver r) (rows ++ [⟨0,q.T,q.k,q.cs.map (cv H 6)⟩])
 | none=>False
def endO (C:SV→List Row→Prop) (vers:List Nat) (s0:Nat) (σ:AS) (rs:List (Prop × SV)):Prop:=
 resP rs∧lentC σ.hp vers 1000∧σ.fz.contains s0=false∧outC C (retX σ.hp s0) s0 (retS (rs.map (·.2))) (lentR (retX σ.hp s0) σ.hp vers 1000) (if s0 < 1000 then lookR σ.hp s0 else none)
def endA (C:SV→List Row→Prop) (vers:List Nat) (σ:AS) (rs:List (Prop × SV)):Option Nat→Prop
 | none=>endK C vers σ rs
 | some s0=>endO C vers s0 σ rs
def oS1:SV→Option Nat
 | .own s _ _ _ | .ptr s _ _=>if s < 1000 then some s else none
 | _=>none
def oS (oo:Bool) (r:SV):Option Nat:=match oo,r with
 | false,_=>none
 | true,.tup cs=>cs.findSome? oS1
 | true,r=>oS1 r
def fin (P:Program) (res:List ResultVar) (C:SV→List Row→Prop) (vers:List Nat) (oo:Bool):Exit→AS→Prop
 | .normal,σ=>endA C vers σ (res.map (resS P σ)) (oS oo (retS ((res.map (resS P σ)).map (·.2))))
 | .ret,σ=>endA C vers σ (res.map (resS P σ)) (oS oo (retS ((res.map (resS P σ)).map (·.2))))
 | _,_=>False
def num {α:Type}:Nat→List α→List (Nat × α)
 | _,[]=>[]
 | i,x :: l=>(i,x) :: num (i + 1) l
section
variable {P:Program} {X:Ev} {e:En} {g:Cx} {w:World}
theorem look_num:∀ (l:List SV) (i d:Nat),look (num i l) d=if i≤d then l.getD (d - i) .any else .any
 | [],i,d=>by simp [num,look]
 | s :: l,i,d=>by
   simp only [num,look,look_num l (i + 1) d];by_cases h:i=d
   ·subst h;simp
   ·rw [if_neg h]
    by_cases h2:i + 1≤d
    ·rw [if_pos h2,if_pos (by omega),show d - i=(d - (i + 1)) + 1 by omega];rfl
    ·rw [if_neg h2,if_neg (by omega)]
theorem lookR_num:∀ (l:List Row) (i d:Nat) (r:Row),lookR (num i l) d=some r→i≤d∧l[d - i]?=some r
 | [],i,d,r,h=>by cases h
 | s :: l,i,d,r,h=>by
   simp only [num,lookR] at h;by_cases hi:i=d
   ·subst hi;simp at h;subst h;simp
   ·rw [if_neg hi] at h
    have:=lookR_num l (i + 1) d r h;refine ⟨by omega,?_⟩;rw [show d - i=(d - (i + 1)) + 1 by omega];simpa using this.2
theorem run_load_of {T:TypeId} {ad:Addr} {v:Value} {w':World} {x:Operand} {ρ:Operand→Value} {dst:Option Tmp} {ty:TypeId} {pos:String} {af:Array Edge} {gd:Option (Nat × Bool)} (hx:ρ x=.pointer (some ad)) (h:(execOp ρ ⟨dst,.load T x,ty,pos,af,gd⟩).run P w=.ok (.value v) w'):(loadVar T ad).run P w=.ok v w':=by
 simp only [execOp,Instr.loadAt,hx,Instr.sureAddr,Sem.run_bind,Sem.run_pure,Result.andThen_ok] at h;cases hl:(loadVar T ad).run P w with
 | ok u u'=>rw [hl] at h;simp at h;rw [h.1,h.2]
 | halt u u'=>rw [hl] at h;cases h
def rvRun (tmps:Array Value):ResultVar→Sem Value
 | .tmp t=>pure (tmps.getD t undef)
 | .cell b t=>do loadVar t (← asAddr (tmps.getD b undef))
theorem results_eq (fn:Func) (tmps:Array Value):results fn tmps=(do
 let vs ← fn.results.mapM (rvRun tmps)
 pure (if h:vs.size=1 then vs[0] else .tuple vs)):=by
 unfold results;congr 1
theorem run_res {σ:AS} {a:Act} (hf:∀ d,holds g w (look σ.fr d) (a.tmps.getD d undef)) (hI:Inv X e g w (lookR σ.hp) (· < σ.nx) σ.fz) (rv:ResultVar) (hp:(resS P σ rv).1):
 ∃ v,(rvRun a.tmps rv).run P w=.ok v w∧holds g w (resS P σ rv).2 v:=by
 cases rv with
 | tmp t=>exact ⟨_,rfl,hf t⟩
 | cell b T=>
   have hp:(ldV (agT P T) (szT P T) (lookR σ.hp) σ.nx (look σ.fr b)).p:=hp;have h:=q_ld (P:=P) (o:=⟨none,.load T (.const (a.tmps.getD b undef)),0, "",#[],none⟩) (ρ:=a.eval) rfl (hf b) (fun u _ r hr=>hI.row u r hr) hp;obtain ⟨v,h1,h2⟩:=h;have hptr:∃ ad,a.tmps.getD b undef=.pointer (some ad):=by
    have h3:=hf b
    revert hp h3
    cases look σ.fr b with
    | ptr s v o=>intro _ h3;exact ⟨_,h3.2⟩
    | rp cs=>intro _ h3;obtain ⟨b',o,e,_⟩:=h3;exact ⟨_,e⟩
    | _=>intro hp _;exact hp.elim
   obtain ⟨ad,had⟩:=hptr;have h4:=run_load_of (x:=.const (a.tmps.getD b undef)) (ρ:=a.eval) had h1;refine ⟨v,?_,h2⟩;simp only [rvRun,had,asAddr,Sem.run_bind,Sem.run_pure,Result.andThen_ok,h4]
theorem run_ress {σ:AS} {a:Act} (hf:∀ d,holds g w (look σ.fr d) (a.tmps.getD d undef)) (hI:Inv X e g w (lookR σ.hp) (· < σ.nx) σ.fz):∀ (l:List ResultVar),resP (l.map (resS P σ))→
 ∃ vs:List Value,(l.mapM (rvRun a.tmps)).run P w=.ok vs w∧agL g w ((l.map (resS P σ)).map (·.2)) vs
 | [],_=>⟨[],by simp,trivial⟩
 | rv :: l,h=>by
   obtain ⟨v,h1,h2⟩:=run_res hf hI rv h.1;obtain ⟨vs,h3,h4⟩:=run_ress hf hI l h.2;refine ⟨v :: vs,?_,h2,h4⟩;rw [List.mapM_cons];simp only [Sem.run_bind,h1,h3,Result.andThen_ok,Sem.run_pure]
theorem run_results {fn:Func} {σ:AS} {a:Act} (hf:∀ d,holds g w (look σ.fr d) (a.tmps.getD d undef)) (hI:Inv X e g w (lookR σ.hp) (· < σ.nx) σ.fz) (hp:resP (fn.results.toList.map (resS P σ))):
 ∃ v,(results fn a.tmps).run P w=.ok v w∧holds g w (retS ((fn.results.toList.map (resS P σ)).map (·.2))) v:=by
 obtain ⟨vs,h1,h2⟩:=run_ress hf hI fn.results.toList hp;have hm:(fn.results.mapM (rvRun a.tmps)).run P w=.ok vs.toArray w:=by
  rw [Array.mapM_eq_mapM_toList]
  show Sem.run P (List.toArray <$> _) w=_
  rw [map_eq_pure_bind,Sem.run_bind,h1]
  rfl
 rw [results_eq,Sem.run_bind,hm];simp only [Result.andThen_ok,Sem.run_pure];generalize (fn.results.toList.map (resS P σ)).map (·.2)=ss at h2
 match ss,vs,h2 with
 | [],[],h=>exact ⟨_,rfl,[],rfl,trivial⟩
 | [s],[v],h=>exact ⟨_,rfl,h.1⟩
 | s :: t :: l,v :: u :: vs,h=>exact ⟨_,by simp,_,rfl,h⟩
theorem lentC.get {hp:List (Nat × Row)} {H:Nat→Option Row}:∀ {vers:List Nat} {i:Nat},lentC hp vers i→∀ (j v:Nat),vers[j]?=some v→∃ r,lookR hp (i + j)=some r∧r.ver=v∧(lentR H hp vers i)[j]?=some (lnR H (some r))
 | x :: l,i,h,0,v,e=>by
   simp at e;subst e;obtain ⟨r,hr,hv⟩:=Option.map_eq_some_iff.1 h.1;exact ⟨r,hr,hv,by simp [lentR,hr]⟩
 | x :: l,i,h,j + 1,v,e=>by
   obtain ⟨r,h1,h2,h3⟩:=lentC.get h.2 j v (by simpa using e);exact ⟨r,by rw [show i + (j + 1)=i + 1 + j by omega];exact h1,h2,by simpa [lentR] using h3⟩
 | [],_,_,_,_,e=>by simp at e
theorem lentR.vers {hp:List (Nat × Row)} {H:Nat→Option Row}:∀ {vers:List Nat} {i:Nat},lentC hp vers i→(lentR H hp vers i).map (·.ver)=vers
 | [],_,_=>rfl
 | x :: l,i,h=>by
   obtain ⟨r,hr,hv⟩:=Option.map_eq_some_iff.1 h.1;simp only [lentR,List.map_cons,lentR.vers h.2,hr,lnR,hv]
theorem lentR.mem {hp:List (Nat × Row)} {H:Nat→Option Row}:∀ {vers:List Nat} {i:Nat},lentC hp vers i→∀ q ∈ lentR H hp vers i,∃ s r,1000≤i→1000≤s∧lookR hp s=some r∧q=lnR H (some r)
 | x :: l,i,h,q,hq=>by
   obtain ⟨r,hr,hv⟩:=Option.map_eq_some_iff.1 h.1;simp only [lentR,List.mem_cons] at hq;rcases hq with rfl | hq
   ·exact ⟨i,r,fun hi=>⟨hi,hr,by rw [hr]⟩⟩
   ·obtain ⟨s,r,h⟩:=lentR.mem h.2 q hq
    exact ⟨s,r,fun hi=>h (by omega)⟩
 | [],_,_,_,hq=>by simp [lentR] at hq
def sites:Nat→List SV→List SV
 | n,.ptr _ v o :: l=>.ptr n v o :: sites (n + 1) l
 | n,x :: l=>x :: sites n l
 | _,[]=>[]
theorem agL.sites:∀ {args:List SV} {vals:List Value} (n:Nat),agL g w args vals→agL g w (sites n args) vals
 | [],[],_,_=>trivial
 | x :: l,v :: vs,n,h=>by
   cases x with
   | ptr s u o=>exact ⟨h.1,agL.sites (n + 1) h.2⟩
   | _=>exact ⟨h.1,agL.sites n h.2⟩
 | [],_ :: _,_,h=>h.elim
 | _ :: _,[],_,h=>h.elim
theorem ren1_cv {H:Nat→Option Row} {n d u:Nat}:∀ (s:SV),ren1 d u (cv H n s)=cv H n s:=fun s=>by
 cases n with
 | zero=>rfl
 | succ n=>
   cases s with
   | own t v m k=>
     unfold cv;cases H t with
     | none=>rfl
     | some r=>simp only;split <;> rfl
   | ptr t v o=>
     unfold cv;cases H t with
     | none=>rfl
     | some r=>simp only;split <;> rfl
   | _=>rfl
theorem ren_cv {H:Nat→Option Row} {n d u:Nat}:∀ (s:SV),ren d u (cv H n s)=cv H n s:=fun s=>by
 cases n with
 | zero=>rfl
 | succ n=>
   cases s with
   | own t v m k=>
     unfold cv;cases H t with
     | none=>rfl
     | some r=>simp only;split <;> rfl
   | ptr t v o=>
     unfold cv;cases H t with
     | none=>rfl
     | some r=>simp only;split <;> rfl
   | tup cs=>
     show SV.tup ((cs.map (cv H n)).map (ren1 d u))=SV.tup (cs.map (cv H n))
     rw [List.map_map];congr 1
     exact List.map_congr_left fun x _=>ren1_cv x
   | _=>rfl
theorem rnR_id {nx:Nat}:∀ {L:List Nat} {rows:List Row},rows.length=L.length→rnR nx L rows=rows
 | [],[],_=>rfl
 | [],_ :: _,h=>by simp at h
 | _ :: _,[],h=>by simp at h
 | _ :: L,r :: rs,h=>by simp only [rnR];rw [rnR_id (by simpa using h)]
theorem rnR_app {nx:Nat} {p q:Row}:∀ {L:List Nat} {rows:List Row},rows.length=L.length→q ∈ rnR nx L (rows ++ [p])→q ∈ rows∨q=⟨nx,p.T,p.k,p.cs⟩
 | [],[],_,h=>by simp [rnR] at h;exact .inr h
 | [],_ :: _,h,_=>by simp at h
 | _ :: _,[],h,_=>by simp at h
 | _ :: L,r :: rs,h,hq=>by
   simp only [List.cons_append,rnR,List.mem_cons] at hq;rcases hq with rfl | hq
   ·exact .inl (List.mem_cons_self ..)
   ·exact (rnR_app (by simpa using h) hq).imp (List.mem_cons_of_mem _) id
theorem AC.bodyA (ob:Bool) {f:FuncId} {fn:Func} {c:Code} {args:List SV} {rows:List Row} {C:SV→List Row→Prop} {N:Nat} (hf:P.funcs[f]?=some fn) (hb:fn.body=some c) (hgo:∀ vals w,(callFunc f vals).run P w=.ok (.enter f vals) w) (hN:fn.ntmps=N) (hlen:args.length≤N)
 (h:∀ (e:En) (nx:Nat),AW P X e c (fin P fn.results.toList C (rows.map (·.ver)) ob) ⟨num 0 (Am.sites 1000 args),num 1000 rows,nx,[],N⟩):AC P X f args rows C:=⟨fun g w vals nx hE hz hv hblk ha hrows hap=>.inl ⟨hgo _ _,by
 let e:En:=⟨w,g,rows.map (·.ver)⟩
 have hl:=ha.len;refine calls_of_wp hf hb ?_;have hrel:Rel X e ⟨num 0 (Am.sites 1000 args),num 1000 rows,nx,[],N⟩ { tmps:=vals.toArray ++ Array.replicate (fn.ntmps - vals.toArray.size) undef,defers:=[] } w:=by
  refine ⟨rfl,by simp;omega,g,fun d=>?_,⟨.refl g,fun s r hs=>?_,fun s t r q hs ht hst=>?_,fun s r hs _ hk=>?_,fun s r hs hk=>?_,hv,hblk,hz,fun b hb=>.inl hb,fun b _ _=>rfl,Nat.le_refl _,⟨rfl,rfl,rfl⟩,hE,fun b hb=>X.lt w b hE hb,fun u hu hk=>?_⟩⟩
  ·show holds g w (look (num 0 (Am.sites 1000 args)) d) _
   have h0:=ha.sites 1000;generalize Am.sites 1000 args=args0 at h0 ⊢;rw [look_num,if_pos (Nat.zero_le _),Nat.sub_zero];rcases Nat.lt_or_ge d args0.length with hd | hd
   ·obtain ⟨v,hv1,hv2⟩:=h0.get d args0[d] (List.getElem?_eq_getElem hd)
    have hvl:d < vals.length:=(List.getElem?_eq_some_iff.1 hv1).1;have e1:args0.getD d .any=args0[d]:=by simp [List.getD_eq_getElem?_getD,hd]
    have e2:(vals.toArray ++ Array.replicate (fn.ntmps - vals.toArray.size) undef).getD d undef=v:=by
     rw [Array.getD_eq_getD_getElem?,Array.getElem?_append_left (by simpa using hvl)];simp [hv1]
    rw [e1,e2];exact hv2
   ·have e1:args0.getD d .any=.any:=by simp [List.getD_eq_getElem?_getD,hd]
    rw [e1];trivial
  ·exact (hrows r (List.mem_of_getElem? (lookR_num rows 1000 s r hs).2)).1
  ·have h1:=lookR_num rows 1000 s r hs
   have h2:=lookR_num rows 1000 t q ht;exact hap _ _ r q h1.2 h2.2 (by omega)
  ·exact ((hrows r (List.mem_of_getElem? (lookR_num rows 1000 s r hs).2)).2 hk).1
  ·have h1:=lookR_num rows 1000 s r hs
   exact .inr ⟨h1.1,r.ver,List.mem_map.2 ⟨r,List.mem_of_getElem? h1.2,rfl⟩,rfl,hk⟩
  ·obtain ⟨r,hr,rfl⟩:=List.mem_map.1 hu
   exact ((hrows r hr).2 hk).2
 have hlentrow:∀ (G:Cx) (w':World) (σ':AS) (g':Cx) (H:Nat→Option Row),Inv X e g' w' (lookR σ'.hp) (· < σ'.nx) σ'.fz→lentC σ'.hp (rows.map (·.ver)) 1000→(∀ s v,holds g' w' s v→holds G w' (cv H 6 s) v)→(∀ u,g.A u→G.A u∧G.mu u=g.mu u∧G.ka u=g.ka u)→∀ q ∈ lentR H σ'.hp (rows.map (·.ver)) 1000,rowIn G w' q:=fun G w' σ' g' H hI k2 hcv hG q hq=>by
  obtain ⟨s,r,hsr⟩:=lentR.mem k2 q hq;obtain ⟨_,hs,rfl⟩:=hsr (Nat.le_refl _);obtain ⟨i,hi⟩:=List.mem_iff_getElem?.1 hq;have hver:=congrArg (fun l=>l[i]?) (lentR.vers (H:=H) k2);simp only [List.getElem?_map,hi,Option.map_some] at hver;have hold:g.A r.ver:=by
   cases hr0:rows[i]? with
   | none=>rw [hr0] at hver;cases hver
   | some r0=>
     rw [hr0] at hver;simp only [Option.map_some,Option.some.injEq,lnR] at hver;rw [hver];exact (hrows r0 (List.mem_of_getElem? hr0)).1.1
  have hsame:=(hI.le.a r.ver hold).2;have hGv:=hG r.ver hold;obtain ⟨_,hrw⟩:=hI.row s r hs;refine ⟨hGv.1,?_⟩;have hka:g'.ka r.ver=G.ka r.ver:=by rw [hGv.2.2];exact hsame.2
  have hmu:g'.mu r.ver=G.mu r.ver:=by rw [hGv.2.1];exact hsame.1
  rw [hka,hmu] at hrw;refine hrw.imp (fun h0=>⟨h0.1,by show r.cs.map _=[];rw [h0.2];rfl⟩) fun ⟨arr,a1,a2,a3,a4⟩=>⟨arr,a1,a2,by simpa [lnR] using a3,?_⟩
  show agL _ w' (r.cs.map _) (arr.toList.take (r.cs.map _).length)
  rw [List.length_map];exact a4.map hcv
 have hvers:∀ (σ':AS) (H:Nat→Option Row),lentC σ'.hp (rows.map (·.ver)) 1000→(lentR H σ'.hp (rows.map (·.ver)) 1000).length=rows.length∧∀ (i:Nat) (r q:Row),rows[i]?=some r→(lentR H σ'.hp (rows.map (·.ver)) 1000)[i]?=some q→q.ver=r.ver:=fun σ' H k2=>by
  have h0:=lentR.vers (H:=H) k2;refine ⟨by simpa using congrArg List.length h0,fun i r q hr hq=>?_⟩;have:=congrArg (fun l=>l[i]?) h0;simp only [List.getElem?_map,hr,hq,Option.map_some,Option.some.injEq] at this;exact this
 have hend:∀ (oo:Option Nat) (a':Act) (w':World) (σ':AS),endA C (rows.map (·.ver)) σ' (fn.results.toList.map (resS P σ')) oo→Rel X e σ' a' w'→a'.defers=[]∧∃ v,(results fn a'.tmps).run P w'=.ok v w'∧∃ (v':Value) (r:SV) (rows':List Row) (g':Cx),Ending.returned v=.returned v'∧C r rows'∧holds g' w' (ren 0 nx r) v'∧g.le g'∧(∀ b,g'.Z b→g.Z b∨(w.heap.size≤b∧b < w'.heap.size))∧
  (rows'.length=rows.length∨rows'.length=rows.length + 1)∧(∀ (i:Nat) (r q:Row),rows[i]?=some r→rows'[i]?=some q→q.ver=r.ver)∧(∀ q ∈ rnR nx (rows.map (·.ver)) rows',rowIn g' w' q)∧(∀ u,g'.A u→g.A u∨(rows'.length=rows.length + 1∧u=nx∧(g'.ka nx≠0→w.heap.size≤g'.mu nx∧g'.mu nx < w'.heap.size∧¬ g'.Z (g'.mu nx))))∧w.heap.size≤w'.heap.size∧(∀ b,b < w.heap.size→(∀ r ∈ rows,g.ka r.ver≠0→b≠g.mu r.ver)→w'.heap[b]?=w.heap[b]?)∧(w'.os=w.os∧w'.tape=w.tape∧w'.output=w.output)∧X.E w':=fun oo a' w' σ' hK hR=>by
  have hkeep:∀ (g':Cx),Inv X e g' w' (lookR σ'.hp) (· < σ'.nx) σ'.fz→∀ b,b < w.heap.size→(∀ r ∈ rows,g.ka r.ver≠0→b≠g.mu r.ver)→w'.heap[b]?=w.heap[b]?:=fun g' hI b hb hl=>hI.keep b hb fun u hu hk=>by
   obtain ⟨r,hr,rfl⟩:=List.mem_map.1 hu;exact hl r hr hk
  obtain ⟨hd,hs,g',hf',hI⟩:=hR;cases oo with
  | none=>
    obtain ⟨k1,k2,k3⟩:=hK;obtain ⟨v,hv1,hv2⟩:=run_results hf' hI k1
    let Z':Nat→Prop:=fun b=>g.Z b∨(w.heap.size≤b∧b < w'.heap.size)
    have hzz:∀ b,g'.Z b→Z' b:=fun b hb=>(hI.znew b hb).imp id fun hb'=>⟨hb',hI.zlt b hb⟩
    have hrz:∀ s r,retH σ'.hp s=some r→rowIn g' w' r∧(g'.ka r.ver≠0→(⟨Z',g'.A,g'.mu,g'.ka⟩:Cx).Z (g'.mu r.ver)):=fun s r hs=>by
     unfold retH at hs
     split at hs
     ·rename_i hlt
      refine ⟨hI.row s r hs,fun hk=>?_⟩;rcases hI.mine s r hs hk with hge | ⟨h10,_⟩
      ·exact .inr ⟨hge,hI.blk _ (hI.row s r hs).1 hk⟩
      ·omega
     ·cases hs
    have hcv0:=cv_holds (g:=g') (g':=⟨Z',g'.A,g'.mu,g'.ka⟩) hzz hrz 6;have hle:(⟨Z',fun _=>False,g'.mu,g'.ka⟩:Cx).le ⟨Z',g.A,g.mu,g.ka⟩:=⟨fun _ h=>h,fun _ h=>h.elim⟩;have hcv:∀ s v,holds g' w' s v→holds ⟨Z',g.A,g.mu,g.ka⟩ w' (cv (retH σ'.hp) 6 s) v:=fun s v h=>holds.mono hle (fun _ _=>rfl) _ _ (hcv0 s v h)
    obtain ⟨hv3,hv4⟩:=hvers σ' (retH σ'.hp) k2;refine ⟨hd,v,hv1,v,_,_,⟨Z',g.A,g.mu,g.ka⟩,rfl,k3,?_,⟨fun b hb=>.inl hb,fun u hu=>⟨hu,rfl,rfl⟩⟩,fun b hb=>hb,.inl hv3,hv4,fun q hq=>?_,fun u hu=>.inl hu,hI.size,hkeep g' hI,hI.io,hI.env⟩
    ·rw [ren_cv];exact hcv _ _ hv2
    ·rw [rnR_id (by simpa using hv3)] at hq
     exact hlentrow ⟨Z',g.A,g.mu,g.ka⟩ w' σ' g' _ hI k2 hcv (fun u hu=>⟨hu,rfl,rfl⟩) q hq
  | some s0=>
    obtain ⟨k1,k2,k4,k3⟩:=hK;obtain ⟨v,hv1,hv2⟩:=run_results hf' hI k1;by_cases hs0:s0 < 1000
    case neg=>rw [if_neg hs0] at k3;exact k3.elim
    rw [if_pos hs0] at k3;cases hq0:lookR σ'.hp s0 with
    | none=>rw [hq0] at k3;exact k3.elim
    | some q0=>
    rw [hq0] at k3;have k3:C (outS (retX σ'.hp s0) s0 q0.ver _) (_ ++ [⟨0,q0.T,q0.k,q0.cs.map (cv (retX σ'.hp s0) 6)⟩]):=k3
    let Z':Nat→Prop:=fun b=>(g.Z b∨(w.heap.size≤b∧b < w'.heap.size))∧¬ (g'.ka q0.ver≠0∧b=g'.mu q0.ver)
    have hzz:∀ b,g'.Z b→Z' b:=fun b hb=>⟨(hI.znew b hb).imp id fun hb'=>⟨hb',hI.zlt b hb⟩,fun ⟨c1,c2⟩=>hI.free s0 q0 hq0 k4 c1 (c2 ▸ hb)⟩
    have hrz:∀ s r,retX σ'.hp s0 s=some r→rowIn g' w' r∧(g'.ka r.ver≠0→(⟨Z',g'.A,g'.mu,g'.ka⟩:Cx).Z (g'.mu r.ver)):=fun s r hs=>by
     unfold retX at hs
     split at hs
     ·cases hs
     ·rename_i hne
      unfold retH at hs
      split at hs
      ·rename_i hlt
       refine ⟨hI.row s r hs,fun hk=>⟨?_,fun ⟨c1,c2⟩=>hI.apart s s0 r q0 hs hq0 hne hk c1 c2⟩⟩;rcases hI.mine s r hs hk with hge | ⟨h10,_⟩
       ·exact .inr ⟨hge,hI.blk _ (hI.row s r hs).1 hk⟩
       ·omega
      ·cases hs
    have hcv0:=cv_holds (g:=g') (g':=⟨Z',g'.A,g'.mu,g'.ka⟩) hzz hrz 6
    let G:Cx:=⟨Z',fun u=>g.A u∨u=nx,fun u=>if u=nx then g'.mu q0.ver else g.mu u,fun u=>if u=nx then g'.ka q0.ver else g.ka u⟩
    have hle:(⟨Z',fun _=>False,g'.mu,g'.ka⟩:Cx).le G:=⟨fun _ h=>h,fun _ h=>h.elim⟩;have hgG:∀ u,g.A u→G.A u∧G.mu u=g.mu u∧G.ka u=g.ka u:=fun u hu=>by
     have:u≠nx:=Nat.ne_of_lt (hv u hu);exact ⟨.inl hu,if_neg this,if_neg this⟩
    have hmuN:G.mu nx=g'.mu q0.ver:=if_pos rfl;have hkaN:G.ka nx=g'.ka q0.ver:=if_pos rfl;have hcv:∀ s v,holds g' w' s v→holds G w' (cv (retX σ'.hp s0) 6 s) v:=fun s v h=>holds.mono hle (fun _ _=>rfl) _ _ (hcv0 s v h)
    have hout:∀ s v,holds g' w' s v→holds G w' (ren 0 nx (out1 (retX σ'.hp s0) s0 q0.ver s)) v∧holds G w' (ren1 0 nx (out1 (retX σ'.hp s0) s0 q0.ver s)) v:=fun s v h=>by
     have hc:∀ s,holds g' w' s v→holds G w' (ren 0 nx (cv (retX σ'.hp s0) 6 s)) v∧holds G w' (ren1 0 nx (cv (retX σ'.hp s0) 6 s)) v:=fun s h=>by rw [ren_cv,ren1_cv];exact ⟨hcv _ _ h,hcv _ _ h⟩
     cases s with
     | own t ver n k=>
       rw [show out1 (retX σ'.hp s0) s0 q0.ver (.own t ver n k)=if t=s0∧ver=q0.ver then .own 2000 0 n k else cv (retX σ'.hp s0) 6 (.own t ver n k) from rfl]
       split
       ·rename_i hc'
        obtain ⟨h1,h2,h3⟩:=h;rw [hc'.2] at h1 h2 h3;have:holds G w' (.own 0 nx n k) v:=⟨.inr rfl,by rw [hkaN];exact h2,by rw [hkaN,hmuN];exact h3⟩;exact ⟨this,this⟩
       ·exact hc _ h
     | ptr t ver o=>
       rw [show out1 (retX σ'.hp s0) s0 q0.ver (.ptr t ver o)=if t=s0∧ver=q0.ver then .ptr 2000 0 o else cv (retX σ'.hp s0) 6 (.ptr t ver o) from rfl]
       split
       ·rename_i hc'
        obtain ⟨h1,h2⟩:=h;rw [hc'.2] at h1 h2;have:holds G w' (.ptr 0 nx o) v:=⟨.inr rfl,by rw [hmuN];exact h2⟩;exact ⟨this,this⟩
       ·exact hc _ h
     | _=>exact hc _ h
    have houts:∀ (cs:List SV) (vs:List Value),agL g' w' cs vs→agL G w' ((cs.map (out1 (retX σ'.hp s0) s0 q0.ver)).map (ren1 0 nx)) vs:=by
     intro cs
     induction cs with
     | nil=>intro vs h;cases vs with | nil=>trivial | cons _ _=>exact h
     | cons c cs ih=>
       intro vs h;cases vs with
       | nil=>exact h
       | cons v vs=>exact ⟨(hout c v h.1).2,ih vs h.2⟩
    obtain ⟨hv3,hv4⟩:=hvers σ' (retX σ'.hp s0) k2;refine ⟨hd,v,hv1,v,_,_,G,rfl,k3,?_,⟨fun b hb=>⟨.inl hb,fun ⟨c1,c2⟩=>?_⟩,hgG⟩,fun b hb=>hb.1,.inr (by simp [hv3]),fun i r q hr hq=>?_,fun q hq=>?_,fun u hu=>hu.imp id fun hu=>⟨by simp [hv3],hu,fun hk=>?_⟩,hI.size,hkeep g' hI,hI.io,hI.env⟩
    ·generalize retS ((fn.results.toList.map (resS P σ')).map (·.2))=rr at hv2
     cases rr with
     | tup cs=>obtain ⟨vs,e1,e2⟩:=hv2;exact ⟨vs,e1,houts cs vs e2⟩
     | _=>exact (hout _ _ hv2).1
    ·
     rcases hI.mine s0 q0 hq0 c1 with hge | ⟨h10,_⟩
     ·have:=hz b hb
      have hge:w.heap.size≤g'.mu q0.ver:=hge;omega
     ·omega
    ·have hi:i < rows.length:=(List.getElem?_eq_some_iff.1 hr).1
     rw [List.getElem?_append_left (by omega)] at hq;exact hv4 i r q hr hq
    ·rcases rnR_app (by simpa using hv3) hq with hq | rfl
     ·exact hlentrow G w' σ' g' _ hI k2 hcv hgG q hq
     ·obtain ⟨_,hrw⟩:=hI.row s0 q0 hq0
      refine ⟨.inr rfl,?_⟩
      show (G.ka nx=0∧_)∨_
      rw [hkaN,hmuN];refine hrw.imp (fun h0=>⟨h0.1,by show q0.cs.map _=[];rw [h0.2];rfl⟩) fun ⟨arr,a1,a2,a3,a4⟩=>⟨arr,a1,a2,by simpa using a3,?_⟩
      show agL _ w' (q0.cs.map _) (arr.toList.take (q0.cs.map _).length)
      rw [List.length_map];exact a4.map hcv
    ·rw [hkaN] at hk
     rw [hmuN];rcases hI.mine s0 q0 hq0 hk with hge | ⟨h10,_⟩
     ·exact ⟨hge,hI.blk _ (hI.row s0 q0 hq0).1 hk,fun hb=>hb.2 ⟨hk,rfl⟩⟩
     ·omega
 refine wp_mono (h e nx _ w hrel) fun en a' w' ⟨σ',hq,hr'⟩=>?_
 cases en with
 | normal=>exact hend _ a' w' σ' hq hr'
 | ret=>exact hend _ a' w' σ' hq hr'
 | _=>exact hq.elim⟩⟩
theorem AC.body {f:FuncId} {fn:Func} {c:Code} {args:List SV} {rows:List Row} {C:SV→List Row→Prop} {N:Nat} (hf:P.funcs[f]?=some fn) (hb:fn.body=some c) (hgo:∀ vals w,(callFunc f vals).run P w=.ok (.enter f vals) w) (hN:fn.ntmps=N) (hlen:args.length≤N)
 (h:∀ (e:En) (nx:Nat),aw P X e c (fin P fn.results.toList C (rows.map (·.ver)) false) ⟨num 0 (Am.sites 1000 args),num 1000 rows,nx,[],N⟩):AC P X f args rows C:=AC.bodyA false hf hb hgo hN hlen fun e nx=>aw_sound _ _ _ (h e nx)
end
end Am
end Go.Proofs.YtelefkkkccilaaaDoor
