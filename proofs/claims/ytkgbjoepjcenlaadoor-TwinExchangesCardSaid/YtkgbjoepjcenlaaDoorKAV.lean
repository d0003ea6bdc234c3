/- Joined texts. -/
import Derived.WalkKit
set_option linter.unusedVariables false
set_option linter.unusedSimpArgs false
namespace Go.Proofs.YtkgbjoepjcenlaaDoor
namespace Am
structure SlP where
 p:(Nat→Prop)→World→Option Addr→Nat→Nat→Prop
 mono:∀ {Z Z':Nat→Prop} {w w':World} {a:Option Addr} {n c:Nat},(∀ b,Z b→Z' b)→(∀ b,Z b→w'.heap[b]?=w.heap[b]?)→p Z w a n c→p Z' w' a n c
inductive SV where
 | any
 | v (x:Value)
 | sl (n k:Nat) (cs:List SV)
 | agg (cs:List SV)
 | tup (cs:List SV)
 | ptr (s ver off:Nat)
 | own (s ver n k:Nat)
 | rp (cs:List SV)
 | s (q:SlP)
structure Row where
 ver:Nat
 T:Nat
 k:Nat
 cs:List SV
structure Cx where
 Z:Nat→Prop
 A:Nat→Prop
 mu:Nat→Nat
 ka:Nat→Nat
abbrev Cx.pure (g:Cx):Cx:=⟨g.Z,fun _=>False,g.mu,g.ka⟩
mutual
def holds (g:Cx) (w:World):SV→Value→Prop
 | .any,_=>True
 | .v x,v=>v=x
 | .sl n k cs,v=>∃ (a:Option Addr) (c:Nat),v=.slice a n c∧(n≤c∧0≤c)∧cs.length=n * k∧(cs.length=0∨∃ b o,a=some ⟨b,o,none⟩∧g.Z b∧atL g.pure w cs b o)
 | .agg cs,v=>∃ vs:List Value,v=.agg vs.toArray∧agL g w cs vs
 | .tup cs,v=>∃ vs:List Value,v=.tuple vs.toArray∧agL g w cs vs
 | .ptr _ ver off,v=>g.A ver∧v=.pointer (some ⟨g.mu ver,off,none⟩)
 | .own _ ver n _,v=>g.A ver∧(n≤g.ka ver∧g.ka ver≤9223372036854775807)∧(v=.slice (some ⟨g.mu ver,0,none⟩) n (g.ka ver)∨(g.ka ver=0∧v=.slice none 0 0))
 | .rp cs,v=>∃ b o,v=.pointer (some ⟨b,o,none⟩)∧g.Z b∧atL g.pure w cs b o
 | .s q,v=>∃ a n c,v=.slice a n c∧q.p g.Z w a n c
def atL (g:Cx) (w:World):List SV→Nat→Nat→Prop
 | [],_,_=>True
 | c :: cs,b,o=>(∃ x,w.cell? ⟨b,o,none⟩=some x∧holds g w c x)∧atL g w cs b (o + 1)
def agL (g:Cx) (w:World):List SV→List Value→Prop
 | [],[]=>True
 | c :: cs,v :: vs=>holds g w c v∧agL g w cs vs
 | _,_=>False
end
structure Cx.le (g g':Cx):Prop where
 z:∀ b,g.Z b→g'.Z b
 a:∀ n,g.A n→g'.A n∧g'.mu n=g.mu n∧g'.ka n=g.ka n
theorem Cx.le.refl (g:Cx):g.le g:=⟨fun _ h=>h,fun _ h=>⟨h,rfl,rfl⟩⟩
theorem Cx.le.trans {a b c:Cx} (h:a.le b) (k:b.le c):a.le c:=
 ⟨fun x hx=>k.z x (h.z x hx),fun n hn=>have h1:=h.a n hn;have h2:=k.a n h1.1;⟨h2.1,h2.2.1.trans h1.2.1,h2.2.2.trans h1.2.2⟩⟩
theorem Cx.le.pure {g g':Cx} (h:g.le g'):g.pure.le g'.pure:=⟨h.z,fun _ h=>h.elim⟩
theorem Cx.pure_le (g:Cx):g.pure.le g:=⟨fun _ h=>h,fun _ h=>h.elim⟩
theorem cell_eq {w w':World} {b:Nat} (h:w'.heap[b]?=w.heap[b]?) (o:Nat):w'.cell? ⟨b,o,none⟩=w.cell? ⟨b,o,none⟩:=by
 simp [World.cell?,h]
mutual
theorem holds.mono {g g':Cx} {w w':World} (hg:g.le g') (hw:∀ b,g.Z b→w'.heap[b]?=w.heap[b]?):∀ (s:SV) (v:Value),holds g w s v→holds g' w' s v
 | .any,_,_=>trivial
 | .v _,_,h=>h
 | .sl n k cs,v,h=>by
   obtain ⟨a,c,e,hn,hl,h⟩:=h
   refine ⟨a,c,e,hn,hl,h.imp id fun ⟨b,o,e,hz,h⟩=>⟨b,o,e,hg.z b hz,atL.mono hg.pure hw cs b o hz h⟩⟩
 | .agg cs,v,h=>by
   obtain ⟨vs,e,h⟩:=h
   exact ⟨vs,e,agL.mono hg hw cs vs h⟩
 | .tup cs,v,h=>by
   obtain ⟨vs,e,h⟩:=h
   exact ⟨vs,e,agL.mono hg hw cs vs h⟩
 | .ptr s ver off,v,h=>by
   obtain ⟨ha,e⟩:=h
   have:=hg.a ver ha
   exact ⟨this.1,by rw [this.2.1];exact e⟩
 | .own s ver n k,v,h=>by
   obtain ⟨ha,hn,e⟩:=h
   have:=hg.a ver ha
   exact ⟨this.1,by rw [this.2.2];exact hn,by rw [this.2.1,this.2.2];exact e⟩
 | .rp cs,v,h=>by
   obtain ⟨b,o,e,hz,h⟩:=h
   exact ⟨b,o,e,hg.z b hz,atL.mono hg.pure hw cs b o hz h⟩
 | .s q,v,h=>by
   obtain ⟨a,n,c,e,h⟩:=h
   exact ⟨a,n,c,e,q.mono hg.z hw h⟩
theorem atL.mono {g g':Cx} {w w':World} (hg:g.le g') (hw:∀ b,g.Z b→w'.heap[b]?=w.heap[b]?):∀ (cs:List SV) (b o:Nat),g.Z b→atL g w cs b o→atL g' w' cs b o
 | [],_,_,_,_=>trivial
 | c :: cs,b,o,hz,h=>by
   obtain ⟨⟨x,hx,hh⟩,h⟩:=h
   exact ⟨⟨x,(cell_eq (hw b hz) o).trans hx,holds.mono hg hw c x hh⟩,atL.mono hg hw cs b (o + 1) hz h⟩
theorem agL.mono {g g':Cx} {w w':World} (hg:g.le g') (hw:∀ b,g.Z b→w'.heap[b]?=w.heap[b]?):∀ (cs:List SV) (vs:List Value),agL g w cs vs→agL g' w' cs vs
 | [],[],_=>trivial
 | c :: cs,v :: vs,h=>⟨holds.mono hg hw c v h.1,agL.mono hg hw cs vs h.2⟩
 | [],_ :: _,h=>h.elim
 | _ :: _,[],h=>h.elim
end
section
variable {g:Cx} {w:World}
theorem holds.up {s:SV} {v:Value} (h:holds g.pure w s v):holds g w s v:=holds.mono g.pure_le (fun _ _=>rfl) s v h
theorem agL.up {cs:List SV} {vs:List Value} (h:agL g.pure w cs vs):agL g w cs vs:=agL.mono g.pure_le (fun _ _=>rfl) cs vs h
theorem agL.len:∀ {cs:List SV} {vs:List Value},agL g w cs vs→cs.length=vs.length
 | [],[],_=>rfl
 | _ :: _,_ :: _,h=>by simpa using agL.len h.2
theorem agL.get:∀ {cs:List SV} {vs:List Value},agL g w cs vs→∀ (i:Nat) (c:SV),cs[i]?=some c→∃ v,vs[i]?=some v∧holds g w c v
 | [],[],_,i,c,h=>by simp at h
 | c :: cs,v :: vs,h,0,d,e=>by simp at e;subst e;exact ⟨v,rfl,h.1⟩
 | c :: cs,v :: vs,h,i + 1,d,e=>by simpa using agL.get h.2 i d (by simpa using e)
theorem agL.drop:∀ {cs:List SV} {vs:List Value},agL g w cs vs→∀ n,agL g w (cs.drop n) (vs.drop n)
 | [],[],_,n=>by simp [agL]
 | c :: cs,v :: vs,h,0=>h
 | c :: cs,v :: vs,h,n + 1=>by simpa using agL.drop h.2 n
theorem agL.take:∀ {cs:List SV} {vs:List Value},agL g w cs vs→∀ n,agL g w (cs.take n) (vs.take n)
 | [],[],_,n=>by simp [agL]
 | c :: cs,v :: vs,h,0=>by simp [agL]
 | c :: cs,v :: vs,h,n + 1=>by simpa [agL] using ⟨h.1,agL.take h.2 n⟩
theorem agL.append:∀ {cs ds:List SV} {vs us:List Value},agL g w cs vs→agL g w ds us→agL g w (cs ++ ds) (vs ++ us)
 | [],_,[],_,_,k=>k
 | c :: cs,_,v :: vs,_,h,k=>⟨h.1,agL.append h.2 k⟩
theorem agL.ofv:∀ (l:List Value),agL g w (l.map .v) l
 | []=>trivial
 | _ :: l=>⟨rfl,agL.ofv l⟩
theorem atL.drop:∀ {cs:List SV} {b o:Nat},atL g w cs b o→∀ n,n≤cs.length→atL g w (cs.drop n) b (o + n)
 | _,_,_,h,0,_=>h
 | c :: cs,b,o,h,n + 1,hn=>by
   have:=atL.drop h.2 n (by simpa using hn)
   rw [show o + (n + 1)=o + 1 + n by omega]
   simpa using this
 | [],_,_,_,n + 1,hn=>by simp at hn
theorem atL.take:∀ {cs:List SV} {b o:Nat},atL g w cs b o→∀ n,atL g w (cs.take n) b o
 | [],_,_,_,n=>by simp [atL]
 | c :: cs,b,o,h,0=>by simp [atL]
 | c :: cs,b,o,h,n + 1=>by simpa [atL] using ⟨h.1,atL.take h.2 n⟩
theorem atL.vals:∀ {cs:List SV} {b o:Nat},atL g w cs b o→∃ vs:List Value,agL g w cs vs∧∀ i,i < cs.length→∃ x,vs[i]?=some x∧w.cell? ⟨b,o + i,none⟩=some x
 | [],_,_,_=>⟨[],trivial,fun i h=>by simp at h⟩
 | c :: cs,b,o,h=>by
   obtain ⟨⟨x,hx,hh⟩,h⟩:=h
   obtain ⟨vs,h1,h2⟩:=atL.vals h
   refine ⟨x :: vs,⟨hh,h1⟩,fun i hi=>?_⟩
   cases i with
   | zero=>exact ⟨x,rfl,hx⟩
   | succ i=>
     obtain ⟨y,e1,e2⟩:=h2 i (by simpa using hi)
     exact ⟨y,by simpa using e1,by rw [show o + (i + 1)=o + 1 + i by omega];exact e2⟩
theorem atL.of:∀ {cs:List SV} {vs:List Value} {b o:Nat},agL g w cs vs→(∀ i x,vs[i]?=some x→w.cell? ⟨b,o + i,none⟩=some x)→atL g w cs b o
 | [],[],_,_,_,_=>trivial
 | c :: cs,v :: vs,b,o,h,k=>⟨⟨v,k 0 v rfl,h.1⟩,atL.of h.2 fun i x e=>by
  have:=k (i + 1) x (by simpa using e)
  rw [show o + 1 + i=o + (i + 1) by omega];exact this⟩
end
def rowIn (g:Cx) (w:World) (r:Row):Prop:=
 g.A r.ver∧((g.ka r.ver=0∧r.cs=[])∨∃ arr:Array Value,w.heap[g.mu r.ver]?=some (.cells arr r.T (0,0))∧arr.size=g.ka r.ver * r.k∧r.cs.length≤arr.size∧agL g w r.cs (arr.toList.take r.cs.length))
theorem rowIn.mono {g g':Cx} {w w':World} (hg:g.le g') (hw:∀ b,g.Z b→w'.heap[b]?=w.heap[b]?) {r:Row} (h:rowIn g w r) (hb:g.ka r.ver≠0→w'.heap[g.mu r.ver]?=w.heap[g.mu r.ver]?):rowIn g' w' r:=by
 obtain ⟨ha,h⟩:=h
 have e:=hg.a _ ha
 refine ⟨e.1,?_⟩
 by_cases hk:g.ka r.ver=0
 ·left
  rw [e.2.2]
  refine ⟨hk,?_⟩
  rcases h with h | ⟨arr,h1,h2,h3,h4⟩
  ·exact h.2
  ·rw [hk,Nat.zero_mul] at h2
   exact List.length_eq_zero_iff.1 (by omega)
 ·rcases h with h | ⟨arr,h1,h2,h3,h4⟩
  ·exact absurd h.1 hk
  ·exact .inr ⟨arr,by rw [e.2.1,hb hk];exact h1,by rw [e.2.2];exact h2,h3,h4.mono hg hw⟩
theorem rowIn.arr {g:Cx} {w:World} {r:Row} (h:rowIn g w r) (h0:0 < r.cs.length):g.ka r.ver≠0∧∃ arr:Array Value,w.heap[g.mu r.ver]?=some (.cells arr r.T (0,0))∧arr.size=g.ka r.ver * r.k∧r.cs.length≤arr.size∧agL g w r.cs (arr.toList.take r.cs.length):=by
 obtain ⟨ha,h | ⟨arr,h1,h2,h3,h4⟩⟩:=h
 ·rw [h.2] at h0;simp at h0
 ·refine ⟨fun e=>?_,arr,h1,h2,h3,h4⟩
  rw [e,Nat.zero_mul] at h2
  omega
end Am
end Go.Proofs.YtkgbjoepjcenlaaDoor
namespace Go.Proofs.YtkgbjoepjcenlaaDoor
namespace Am
structure Rs where
 p:Prop
 r:SV
 rd:List Nat
 wr:Option (Nat × Row)
 nx:Nat
abbrev pu (p:Prop) (r:SV) (nx:Nat):Rs:=⟨p,r,[],none,nx⟩
abbrev bad (nx:Nat):Rs:=⟨False,.any,[],none,nx⟩
def szT (P:Program) (T:TypeId):Nat:=match (sizeOf T).run P default with | .ok n _=>n | _=>0
def agT (P:Program) (T:TypeId):Option Bool:=match (isAgg T).run P default with | .ok n _=>some n | _=>none
def zcT (P:Program) (T:TypeId):Option Value:=match (zeroValue T).run P default with | .ok n _=>some n | _=>none
def cells:SV→List SV
 | .agg cs=>cs
 | x=>[x]
def partS (a:Option Bool) (k:Nat) (cs:List SV):SV:=match a with | some true=>.agg (cs.take k) | some false=>cs.headD .any | none=>.any
def ovw {α:Type} (cs:List α) (o:Nat) (new:List α):List α:=cs.take o ++ new ++ cs.drop (o + new.length)
def sub (cs:List SV) (i k:Nat):List SV:=(cs.drop (i * k)).take k
def pkV:SV→SV→SV→Nat→Rs
 | .v (.bool b),x,y,nx=>pu True (bif b then x else y) nx
 | _,_,_,nx=>bad nx
def ncV:SV→Nat→Rs
 | .ptr s v o,nx=>pu True (.ptr s v o) nx
 | .rp cs,nx=>pu True (.rp cs) nx
 | _,nx=>bad nx
def faF (P:Program) (x:SV) (nx:Nat):Option Field→Rs
 | some f=>match x with
   | .ptr s v o=>pu (szT P f.type≠0) (.ptr s v (o + f.offset)) nx
   | .rp cs=>pu (szT P f.type≠0∧f.offset≤cs.length) (.rp (cs.drop f.offset)) nx
   | _=>bad nx
 | none=>bad nx
def faU (P:Program) (f:Nat) (x:SV) (nx:Nat):Option TypeDesc→Rs
 | some (.struct fs)=>faF P x nx (fs[f]?)
 | _=>bad nx
def flF (P:Program) (cs:List SV) (nx:Nat):Option Field→Rs
 | some f=>pu (f.offset + szT P f.type≤cs.length∧0 < szT P f.type∧agT P f.type≠none) (partS (agT P f.type) (szT P f.type) (cs.drop f.offset)) nx
 | none=>bad nx
def flU (P:Program) (f:Nat) (nx:Nat):SV→Option TypeDesc→Rs
 | .agg cs,some (.struct fs)=>flF P cs nx (fs[f]?)
 | _,_=>bad nx
def exV (i nx:Nat):SV→Rs
 | .tup cs=>pu (i < cs.length) (cs.getD i .any) nx
 | _=>bad nx
def biI (op:BinOp) (k k':IntKind) (a b:Int) (nx:Nat):Rs:=
 match op with
 | .add=>pu (k=k') (.v (.int k (k.wrap (a + b)))) nx
 | .sub=>pu (k=k') (.v (.int k (k.wrap (a - b)))) nx
 | .mul=>pu (k=k') (.v (.int k (k.wrap (a * b)))) nx
 | .quo=>pu (k=k'∧b≠0) (.v (.int k (k.wrap (a.tdiv b)))) nx
 | .rem=>pu (k=k'∧b≠0) (.v (.int k (a.tmod b))) nx
 | .and=>pu (k=k') (.v (.int k (k.wrap (BitVec.ofInt k.bits a &&& BitVec.ofInt k.bits b).toNat))) nx
 | .or=>pu (k=k') (.v (.int k (k.wrap (BitVec.ofInt k.bits a ||| BitVec.ofInt k.bits b).toNat))) nx
 | .xor=>pu (k=k') (.v (.int k (k.wrap (BitVec.ofInt k.bits a ^^^ BitVec.ofInt k.bits b).toNat))) nx
 | .shl=>pu (0≤b) (.v (.int k (k.wrap (a * 2 ^ min b.toNat k.bits)))) nx
 | .shr=>pu (0≤b) (.v (.int k (a.fdiv (2 ^ min b.toNat k.bits)))) nx
 | .eql=>pu (k=k') (.v (.bool (decide (a=b)))) nx
 | .neq=>pu (k=k') (.v (.bool (!decide (a=b)))) nx
 | .lss=>pu (k=k') (.v (.bool (decide (a < b)))) nx
 | .leq=>pu (k=k') (.v (.bool (decide (a≤b)))) nx
 | .gtr=>pu (k=k') (.v (.bool (decide (b < a)))) nx
 | .geq=>pu (k=k') (.v (.bool (decide (b≤a)))) nx
 | _=>bad nx
def biV (op:BinOp) (nx:Nat):SV→SV→Rs
 | .v (.int k a),.v (.int k' b)=>biI op k k' a b nx
 | .v (.float k a),.v (.float k' b)=>match op with
   | .eql=>pu (k=k') (.v (.bool (k.format.order a b==some .eq))) nx
   | .neq=>pu (k=k') (.v (.bool (k.format.order a b !=some .eq))) nx
   | _=>bad nx
 | .v (.string a),.v (.string b)=>match op with
   | .eql=>pu True (.v (.bool (a.toList==b.toList))) nx
   | .neq=>pu True (.v (.bool (!(a.toList==b.toList)))) nx
   | .add=>pu (a.size + b.size≤9223372036854775807) (.v (.string (a ++ b))) nx
   | _=>bad nx
 | _,_=>bad nx
def biX (op:BinOp) (nx:Nat):Option TypeDesc→SV→SV→Rs
 | some .bool,.v (.bool a),.v (.bool b)=>match op with
   | .eql=>pu True (.v (.bool (a==b))) nx
   | .neq=>pu True (.v (.bool (!(a==b)))) nx
   | _=>bad nx
 | _,x,y=>biV op nx x y
def unV (op:UnOp) (nx:Nat):SV→Rs
 | .v (.bool b)=>match op with
   | .not=>pu True (.v (.bool (!b))) nx
   | _=>bad nx
 | .v (.int k a)=>match op with
   | .neg=>pu True (.v (.int k (k.wrap (0 - a)))) nx
   | _=>bad nx
 | _=>bad nx
def cvV (nx:Nat):SV→Option TypeDesc→Option TypeDesc→Rs
 | .v (.int _ n),some _,some (.int k)=>pu True (.v (.int k (k.wrap n))) nx
 | _,_,_=>bad nx
def bnd:Option SV→Int→Option Int
 | none,d=>some d
 | some (.v (.int _ n)),_=>some n
 | _,_=>none
def slB (n k:Nat) (cs:List SV) (nx:Nat):Option Int→Option Int→Rs
 | some l,some h=>pu (0≤l∧l≤h∧h≤n) (.sl (h - l).toNat k ((cs.drop (l.toNat * k)).take ((h - l).toNat * k))) nx
 | _,_=>bad nx
def slV (P:Program) (nx:Nat) (lo hi:Option SV):SV→Option TypeDesc→Rs
 | .sl n k cs,some (.slice e)=>{ slB n k cs nx (bnd lo 0) (bnd hi n) with p:=(szT P e=k∧k≠0)∧(slB n k cs nx (bnd lo 0) (bnd hi n)).p }
 | _,_=>bad nx
def iaV (P:Program) (nx:Nat):SV→SV→Option TypeDesc→Rs
 | .sl n k cs,.v (.int _ i),some (.slice e)=>pu ((szT P e=k∧k≠0)∧0≤i∧i < n) (.rp (sub cs i.toNat k)) nx
 | .own s v n k,.v (.int _ i),some (.slice e)=>pu ((szT P e=k∧k≠0)∧0≤i∧i < n) (.ptr s v (i.toNat * k)) nx
 | _,_,_=>bad nx
def ixV (nx:Nat):SV→SV→Option TypeDesc→Rs
 | .v (.string s),.v (.int _ i),some .string=>pu (0≤i∧i < s.size) (.v (.int .u8 (s.get! i.toNat).toNat)) nx
 | _,_,_=>bad nx
def lnV (nx:Nat):SV→Option TypeDesc→Rs
 | .sl n _ _,some (.slice _)=>pu True (.v (.int .i64 n)) nx
 | .own _ _ n _,some (.slice _)=>pu True (.v (.int .i64 n)) nx
 | .v (.slice _ n _),some (.slice _)=>pu True (.v (.int .i64 n)) nx
 | .v (.string s),some .string=>pu True (.v (.int .i64 s.size)) nx
 | _,_=>bad nx
def ldR (a:Option Bool) (k ver off:Nat) (s nx:Nat):Option Row→Rs
 | some r=>⟨r.ver=ver∧off + k≤r.cs.length∧0 < k∧a≠none,partS a k (r.cs.drop off),[s],none,nx⟩
 | none=>bad nx
def ldV (a:Option Bool) (k:Nat) (H:Nat→Option Row) (nx:Nat):SV→Rs
 | .ptr s v o=>ldR a k v o s nx (H s)
 | .rp cs=>pu (k≤cs.length∧0 < k∧a≠none) (partS a k cs) nx
 | _=>bad nx
section
variable {P:Program} {g:Cx} {w:World} {ρ:Operand→Value} {o:Oper}
def Quiet (P:Program) (o:Oper) (ρ:Operand→Value) (g:Cx) (w:World) (r:SV):Prop:=
 ∃ v,(execOp ρ o).run P w=.ok (.value v) w∧holds g w r v
theorem run_sizeOf {T n:Nat} (h:szT P T=n) (h0:n≠0) (w:World):(sizeOf T).run P w=.ok n w:=by
 unfold szT sizeOf typeInfo at *
 simp only [Sem.run_bind,run_program,Result.andThen_ok] at *
 cases hi:P.info? T with
 | none=>simp [hi,stuck] at h;omega
 | some i=>simp [hi] at h ⊢;exact h
theorem run_und {T:Nat} (w:World):(underlying T).run P w=match P.underlying T with | some d=>.ok d w | none=>.halt (.stuck "no such type") w:=by
 unfold underlying
 simp only [Sem.run_bind,run_program,Result.andThen_ok]
 cases P.underlying T <;> rfl
theorem run_isAgg {T:Nat} {b:Bool} (hT:agT P T=some b) (w:World):(isAgg T).run P w=.ok b w:=by
 unfold agT isAgg at *
 simp only [Sem.run_bind,run_und] at *
 cases h:P.underlying T with
 | none=>simp [h,Result.andThen] at hT
 | some d=>cases d <;> simp_all [Result.andThen]
theorem run_part {T n:Nat} {b:Bool} (hT:szT P T=n) (h0:0 < n) (ha:agT P T=some b) {cs:List SV} {vs:List Value} (h:agL g w cs vs) (off:Nat) (hl:off + n≤cs.length) (W:World):
 ∃ v,(part T vs.toArray off).run P W=.ok v W∧holds g w (partS (some b) n (cs.drop off)) v:=by
 have hlen:=h.len
 unfold part
 simp only [Sem.run_bind,run_isAgg ha,Result.andThen_ok]
 cases b with
 | true=>
   simp only [if_true,Sem.run_bind,run_sizeOf hT (by omega),Result.andThen_ok,Sem.run_pure]
   refine ⟨_,rfl,((vs.drop off).take n),?_,(h.drop off).take n⟩
   simp [List.extract_toArray,List.extract_eq_take_drop,Nat.add_sub_cancel_left]
 | false=>
   have hlt:off < vs.length:=by omega
   obtain ⟨c,hc⟩:∃ c,cs[off]?=some c:=⟨cs[off],List.getElem?_eq_getElem (by omega)⟩
   obtain ⟨v,hv,hh⟩:=h.get off c hc
   refine ⟨v,?_,?_⟩
   ·simp [hv]
   ·have:(cs.drop off).headD .any=c:=by rw [List.headD_eq_head?_getD,List.head?_drop,hc];rfl
    simp only [partS,this]
    exact hh
theorem Quiet.ok {r:SV} {v:Value} (h:(execOp ρ o).run P w=.ok (.value v) w) (k:holds g w r v):Quiet P o ρ g w r:=⟨v,h,k⟩
theorem q_move {x:Operand} {s:SV} (ho:o.op=.move x∨o.op=.assign x) (h:holds g w s (ρ x)):Quiet P o ρ g w s:=
 .ok (by rcases ho with ho | ho <;> simp [execOp,ho]) h
theorem q_pick {c x y:Operand} {sc sx sy:SV} {nx:Nat} (ho:o.op=.pick c x y) (hc:holds g w sc (ρ c)) (hx:holds g w sx (ρ x)) (hy:holds g w sy (ρ y)) (hp:(pkV sc sx sy nx).p):Quiet P o ρ g w (pkV sc sx sy nx).r:=by
 cases sc with
 | v z=>
   cases z with
   | bool b=>
     have hc:ρ c=.bool b:=hc
     refine .ok (v:=if b then ρ x else ρ y) (by simp [execOp,ho,hc,asBool]) ?_
     cases b <;> simpa [pkV]
   | _=>exact hp.elim
 | _=>exact hp.elim
theorem q_nil {x:Operand} {s:SV} {nx:Nat} (ho:o.op=.nilCheck x) (h:holds g w s (ρ x)) (hp:(ncV s nx).p):Quiet P o ρ g w (ncV s nx).r:=by
 cases s with
 | ptr s v o=>
   refine .ok (v:=ρ x) ?_ h
   obtain ⟨_,e⟩:=h
   simp [execOp,ho,e]
 | rp cs=>
   refine .ok (v:=ρ x) ?_ h
   obtain ⟨b,o,e,_⟩:=h
   simp [execOp,ho,e]
 | _=>exact hp.elim
theorem run_place {T n:Nat} {b off:Nat} {f:Field} (hT:szT P f.type≠0) (W:World):(fieldPlace ⟨b,off,none⟩ f).run P W=.ok ⟨b,off + f.offset,none⟩ W:=by
 unfold fieldPlace
 simp only [Sem.run_bind,run_sizeOf rfl hT,Result.andThen_ok,hT,if_false,Sem.run_pure,Addr.add]
 by_cases h:f.offset=0 <;> simp [h]
theorem q_fa {T i:Nat} {x:Operand} {s:SV} {nx:Nat} (ho:o.op=.fieldAddr T x i) (h:holds g w s (ρ x)) (hp:(faU P i s nx (P.underlying T)).p):Quiet P o ρ g w (faU P i s nx (P.underlying T)).r:=by
 cases hu:P.underlying T with
 | none=>rw [hu] at hp;exact hp.elim
 | some d=>
   rw [hu] at hp
   cases d with
   | struct fs=>
     simp only [faU] at hp ⊢
     cases hf:fs[i]? with
     | none=>rw [hf] at hp;exact hp.elim
     | some f=>
       rw [hf] at hp
       have key:∀ b off,szT P f.type≠0→ρ x=.pointer (some ⟨b,off,none⟩)→(execOp ρ o).run P w=.ok (.value (.pointer (some ⟨b,off + f.offset,none⟩))) w:=fun b off hT e=>by
        simp only [execOp,ho,Instr.fieldAt,Sem.run_bind,run_und,hu,Result.andThen_ok,hf,e,Instr.sureAddr,Sem.run_pure,run_place (T:=T) (n:=i) hT]
       cases s with
       | ptr s v off=>
         obtain ⟨ha,e⟩:=h
         exact .ok (key _ _ hp e) ⟨ha,rfl⟩
       | rp cs=>
         obtain ⟨b,off,e,hz,hc⟩:=h
         obtain ⟨hp,hl⟩:=hp
         exact .ok (key _ _ hp e) ⟨b,off + f.offset,rfl,hz,hc.drop _ hl⟩
       | _=>exact hp.elim
   | _=>exact hp.elim
theorem q_fl {T i:Nat} {x:Operand} {s:SV} {nx:Nat} (ho:o.op=.field T x i) (h:holds g w s (ρ x)) (hp:(flU P i nx s (P.underlying T)).p):Quiet P o ρ g w (flU P i nx s (P.underlying T)).r:=by
 cases s with
 | agg cs=>
   cases hu:P.underlying T with
   | none=>rw [hu] at hp;exact hp.elim
   | some d=>
     rw [hu] at hp
     cases d with
     | struct fs=>
       simp only [flU] at hp ⊢
       cases hf:fs[i]? with
       | none=>rw [hf] at hp;exact hp.elim
       | some f=>
         rw [hf] at hp
         obtain ⟨h1,h2,h3⟩:=hp
         obtain ⟨b,hb⟩:=Option.ne_none_iff_exists'.1 h3
         obtain ⟨vs,e,hv⟩:=h
         obtain ⟨v,hr,hh⟩:=run_part rfl h2 hb hv f.offset h1 w
         refine .ok (v:=v) ?_ (by simpa [flF,hb] using hh)
         simp only [execOp,ho,Instr.field,Sem.run_bind,run_und,hu,Result.andThen_ok,hf,e,asAgg,Sem.run_pure,hr]
     | _=>exact hp.elim
 | _=>exact hp.elim
theorem q_ex {i:Nat} {x:Operand} {s:SV} {nx:Nat} (ho:o.op=.extract x i) (h:holds g w s (ρ x)) (hp:(exV i nx s).p):Quiet P o ρ g w (exV i nx s).r:=by
 cases s with
 | tup cs=>
   obtain ⟨vs,e,hv⟩:=h
   have hp:i < cs.length:=hp
   obtain ⟨v,h1,h2⟩:=hv.get i cs[i] (List.getElem?_eq_getElem hp)
   refine .ok (v:=v) (by simp [execOp,ho,Instr.extract,e,h1]) ?_
   simpa [exV,hp] using h2
 | _=>exact hp.elim
theorem run_guard_int (op:BinOp) (T:TypeId) (x y:Operand) (k k':IntKind) (a b:Int) (W:World):(eqGuard op T x y (.int k a) (.int k' b)).run P W=.ok () W:=by
 unfold eqGuard;split <;> simp
theorem q_bi {op:BinOp} {T U:TypeId} {x y:Operand} {sx sy:SV} {nx:Nat} (ho:o.op=.binOp op T x y U) (hx:holds g w sx (ρ x)) (hy:holds g w sy (ρ y)) (hp:(biV op nx sx sy).p):Quiet P o ρ g w (biV op nx sx sy).r:=by
 cases sx with
 | v vx=>
   cases sy with
   | v vy=>
     have hx:ρ x=vx:=hx
     have hy:ρ y=vy:=hy
     cases vx with
     | int k a=>
       cases vy with
       | int k' b=>
         simp only [biV] at hp ⊢
         have hg:=run_guard_int (P:=P) op T x y k k' a b w
         cases op <;> simp only [biI] at hp ⊢ <;> first
          | exact hp.elim
          | (refine .ok (v:=_) ?_ rfl
             simp only [execOp,ho,hx,hy,Sem.run_bind,hg,Result.andThen_ok]
             first
              | (subst hp;simp [binOp,Op.intArith,Op.intBits,Op.intCmp];done)
              | (subst hp;simp [binOp,Op.intArith,Op.intBits,Op.intCmp];first | rfl | exact beq_eq_decide .. | (rw [bne,beq_eq_decide]))
              | (obtain ⟨hp,hb⟩:=hp;subst hp;simp [binOp,Op.intDiv,hb])
              | (simp [binOp,Op.shift,Int.not_lt.2 hp]))
       | _=>exact hp.elim
     | float k a=>
       cases vy with
       | float k' b=>
         simp only [biV] at hp ⊢
         cases op <;> simp only at hp ⊢ <;> first
          | exact hp.elim
          | (refine .ok (v:=_) ?_ rfl
             subst hp
             simp [execOp,ho,hx,hy,eqGuard,binOp,Op.floatCmp])
       | _=>exact hp.elim
     | string a=>
       cases vy with
       | string b=>
         simp only [biV] at hp ⊢
         cases op <;> simp only at hp ⊢ <;> first
          | exact hp.elim
          | (refine .ok (v:=_) ?_ rfl
             simp [execOp,ho,hx,hy,eqGuard,binOp,Op.stringOp];done)
          | (refine .ok (v:=_) ?_ rfl
             have h63:¬ (((a.size + b.size:Nat):Int) > IntKind.i64.max):=by
              have:IntKind.i64.max=9223372036854775807:=rfl
              have hp:a.size + b.size≤9223372036854775807:=hp
              omega
             simp only [execOp,ho,hx,hy,eqGuard,binOp,Op.stringOp,if_neg h63]
             simp)
       | _=>exact hp.elim
     | _=>exact hp.elim
   | _=>cases vx <;> exact hp.elim
 | _=>exact hp.elim
theorem run_equal_bool {T:TypeId} (hT:P.underlying T=some .bool) (a b:Bool) (W:World):(Op.equal T (.bool a) (.bool b)).run P W=.ok (a==b) W:=by
 unfold Op.equal
 rw [show Op.maxDepth=9999 + 1 from rfl]
 unfold Op.equalIn
 simp only [Sem.run_bind,run_und,hT,Result.andThen_ok,Sem.run_pure]
theorem q_bx {op:BinOp} {T U:TypeId} {x y:Operand} {sx sy:SV} {nx:Nat} (ho:o.op=.binOp op T x y U) (hx:holds g w sx (ρ x)) (hy:holds g w sy (ρ y)) (hp:(biX op nx (P.underlying T) sx sy).p):Quiet P o ρ g w (biX op nx (P.underlying T) sx sy).r:=by
 unfold biX at hp ⊢
 split at hp
 ·rename_i a b hT
  have hx:ρ x=.bool a:=hx
  have hy:ρ y=.bool b:=hy
  have he:=run_equal_bool (P:=P) hT a b w
  cases op <;> simp only at hp ⊢ <;> first
   | exact hp.elim
   | (refine .ok (v:=_) ?_ rfl
      simp [execOp,ho,hx,hy,eqGuard,binOp,he])
 ·exact q_bi ho hx hy hp
theorem q_un {op:UnOp} {T:TypeId} {x:Operand} {s:SV} {nx:Nat} (ho:o.op=.unOp op T x) (h:holds g w s (ρ x)) (hp:(unV op nx s).p):Quiet P o ρ g w (unV op nx s).r:=by
 cases s with
 | v vx=>
   have hx:ρ x=vx:=h
   cases vx with
   | int k a=>cases op <;> first | exact hp.elim | exact .ok (v:=_) (by simp [execOp,ho,hx,Op.unary,Op.intArith]) rfl
   | bool a=>cases op <;> first | exact hp.elim | exact .ok (v:=_) (by simp [execOp,ho,hx,Op.unary]) rfl
   | _=>exact hp.elim
 | _=>exact hp.elim
theorem q_cv {T U:TypeId} {x:Operand} {s:SV} {nx:Nat} (ho:o.op=.convert T U x) (h:holds g w s (ρ x)) (hp:(cvV nx s (P.underlying T) (P.underlying U)).p):Quiet P o ρ g w (cvV nx s (P.underlying T) (P.underlying U)).r:=by
 cases s with
 | v vx=>
   have hx:ρ x=vx:=h
   cases vx with
   | int k a=>
     cases hT:P.underlying T with
     | none=>rw [hT] at hp;exact hp.elim
     | some dT=>
       cases hU:P.underlying U with
       | none=>rw [hT,hU] at hp;exact hp.elim
       | some dU=>
         rw [hT,hU] at hp
         cases dU with
         | int k'=>exact .ok (v:=.int k' (k'.wrap a)) (by cases dT <;> simp [execOp,ho,hx,convert,run_und,hT,hU,Conv.intToInt]) rfl
         | _=>exact hp.elim
   | _=>exact hp.elim
 | _=>exact hp.elim
theorem run_bound {x:Value} {k:IntKind} {i:Int} (hx:x=.int k i) {y:Nat} {c:BoundsCode} (h0:0≤i) (h1:i≤y) (W:World):(Instr.sliceBound x y c).run P W=.ok i.toNat W:=by
 subst hx
 simp [Instr.sliceBound,asIntOf,h0,h1]
def optH (g:Cx) (w:World) (s:Option SV) (v:Option Value):Prop:=match s,v with | none,none=>True | some s,some v=>holds g w s v | _,_=>False
theorem bnd_some {s:Option SV} {d i:Int} {v:Option Value} (hb:bnd s d=some i) (hv:optH g w s v):
 (s=none∧v=none∧i=d)∨∃ k x,v=some x∧x=.int k i:=by
 cases s with
 | none=>
   cases v with
   | none=>exact .inl ⟨rfl,rfl,by simpa [bnd] using hb.symm⟩
   | some _=>exact hv.elim
 | some s=>
   cases v with
   | none=>exact hv.elim
   | some v=>
     cases s with
     | v z=>cases z <;> simp [bnd] at hb;subst hb;exact .inr ⟨_,v,rfl,hv⟩
     | _=>simp [bnd] at hb
theorem run_bounds {lo hi:Option SV} {vl vh:Option Value} {n c:Nat} {l h:Int} (hl:bnd lo 0=some l) (hh:bnd hi n=some h) (kl:optH g w lo vl) (kh:optH g w hi vh) (h0:0≤l) (h1:l≤h) (h2:h≤n) (hc:n≤c) (W:World):
 (Instr.sliceBounds true n c vl vh none).run P W=.ok (l.toNat,h.toNat,c) W:=by
 unfold Instr.sliceBounds
 rcases bnd_some hh kh with ⟨_,rfl,rfl⟩ | ⟨k,x,rfl,hx⟩ <;> rcases bnd_some hl kl with ⟨_,rfl,rfl⟩ | ⟨k',x',rfl,hx'⟩
 ·simp
 ·simp [run_bound hx' h0 (y:=n) h1]
 ·simp [run_bound hx (by omega) (y:=c) (by omega)]
 ·simp [run_bound hx (by omega) (y:=c) (by omega),run_bound hx' h0 (y:=h.toNat) (by omega)]
theorem q_sl {T:TypeId} {x:Operand} {lo hi:Option Operand} {s:SV} {sl sh:Option SV} {nx:Nat} (ho:o.op=.slice T x lo hi none) (h:holds g w s (ρ x)) (hl:optH g w sl (lo.map ρ)) (hh:optH g w sh (hi.map ρ)) (hp:(slV P nx sl sh s (P.underlying T)).p):Quiet P o ρ g w (slV P nx sl sh s (P.underlying T)).r:=by
 cases s with
 | sl n k cs=>
   cases hT:P.underlying T with
   | none=>rw [hT] at hp;exact hp.elim
   | some dT=>
     rw [hT] at hp
     cases dT with
     | slice e=>
       simp only [slV] at hp ⊢
       obtain ⟨⟨he,h0'⟩,hp⟩:=hp
       cases hbl:bnd sl 0 with
       | none=>simp [hbl,slB] at hp
       | some l=>
         cases hbh:bnd sh n with
         | none=>simp [hbl,hbh,slB] at hp
         | some h2=>
           simp only [hbl,hbh,slB] at hp ⊢
           obtain ⟨p0,p1,p2⟩:=hp
           obtain ⟨a,c,e1,hn,hlen,hc⟩:=h
           have hb:=run_bounds (P:=P) hbl hbh hl hh p0 p1 p2 hn.1 w
           have hmul:(h2 - l).toNat * k + l.toNat * k≤n * k:=by
            rw [← Nat.add_mul];exact Nat.mul_le_mul_right k (by omega)
           have hlen2:((cs.drop (l.toNat * k)).take ((h2 - l).toNat * k)).length=(h2 - l).toNat * k:=by
            rw [List.length_take,List.length_drop];omega
           refine .ok (v:=.slice (if c=l.toNat then a else a.map (·.add (l.toNat * k))) (h2.toNat - l.toNat) (c - l.toNat)) ?_ ⟨_,_,by rw [show (h2 - l).toNat=h2.toNat - l.toNat by omega],by omega,hlen2,?_⟩
           ·simp only [execOp,ho,Instr.sliceAt,Instr.slice,Sem.run_bind,run_und,hT,e1,Option.map_none,Result.andThen_ok,hb,run_sizeOf he (by omega),Sem.run_pure]
           ·rw [hlen2]
            by_cases hz:(h2 - l).toNat * k=0
            ·exact .inl hz
            ·right
             rcases hc with hc | ⟨b,off,rfl,hz',hc⟩
             ·omega
             ·have hcl:c≠l.toNat:=fun e=>hz (by rw [show (h2 - l).toNat=0 by omega,Nat.zero_mul])
              exact ⟨b,off + l.toNat * k,by simp [hcl,Addr.add];try omega,hz',(hc.drop _ (by omega)).take _⟩
     | _=>exact hp.elim
 | _=>exact hp.elim
theorem sub_len {cs:List SV} {n k i:Nat} (h:cs.length=n * k) (hi:i < n):(sub cs i k).length=k∧i * k + k≤cs.length:=by
 have:i * k + k≤n * k:=by
  have:=Nat.mul_le_mul_right k (Nat.succ_le_of_lt hi)
  rwa [Nat.succ_mul] at this
 unfold sub
 rw [List.length_take,List.length_drop]
 omega
theorem q_ia {T:TypeId} {x y:Operand} {s t:SV} {nx:Nat} (ho:o.op=.indexAddr T x y) (h:holds g w s (ρ x)) (hy:holds g w t (ρ y)) (hp:(iaV P nx s t (P.underlying T)).p):Quiet P o ρ g w (iaV P nx s t (P.underlying T)).r:=by
 cases t with
 | v vy=>
   have hy:ρ y=vy:=hy
   cases hT:P.underlying T with
   | none=>rw [hT] at hp;cases s <;> cases vy <;> exact hp.elim
   | some dT=>
     rw [hT] at hp
     cases vy with
     | int k' i=>
       cases dT with
       | slice e=>
         cases s with
         | sl n k cs=>
           obtain ⟨⟨he,h0'⟩,h0,h1⟩:=hp
           obtain ⟨a,c,e1,hn,hlen,hc⟩:=h
           have hs:=sub_len hlen (i:=i.toNat) (by omega)
           rcases hc with hc | ⟨b,off,rfl,hz,hc⟩
           ·omega
           ·refine .ok (v:=.pointer (some ⟨b,off + i.toNat * k,none⟩)) ?_ ⟨b,off + i.toNat * k,rfl,hz,(hc.drop _ (by omega)).take _⟩
            have:i < (n:Int):=h1
            simp [execOp,ho,Instr.indexAt,hy,e1,asIntOf,run_und,hT,h0,this,run_sizeOf he (by omega),Addr.add]
            try omega
         | own s v n k=>
           obtain ⟨⟨he,h0'⟩,h0,h1⟩:=hp
           obtain ⟨ha,hn,e1⟩:=h
           have e1:ρ x=.slice (some ⟨g.mu v,0,none⟩) n (g.ka v):=e1.resolve_right fun e=>by omega
           refine .ok (v:=.pointer (some ⟨g.mu v,i.toNat * k,none⟩)) ?_ ⟨ha,rfl⟩
           have:i < (n:Int):=h1
           simp [execOp,ho,Instr.indexAt,hy,e1,asIntOf,run_und,hT,h0,this,run_sizeOf he (by omega),Addr.add]
           try omega
         | _=>exact hp.elim
       | _=>cases s <;> exact hp.elim
     | _=>cases s <;> cases dT <;> exact hp.elim
 | _=>cases s <;> exact hp.elim
theorem q_ix {T:TypeId} {x y:Operand} {s t:SV} {nx:Nat} (ho:o.op=.index T x y) (h:holds g w s (ρ x)) (hy:holds g w t (ρ y)) (hp:(ixV nx s t (P.underlying T)).p):Quiet P o ρ g w (ixV nx s t (P.underlying T)).r:=by
 unfold ixV at hp ⊢
 split at hp
 ·rename_i s' k i hT
  obtain ⟨h0,h1⟩:=hp
  have hx:ρ x=.string s':=h
  have hy:ρ y=.int k i:=hy
  have hlt:i.toNat < s'.size:=by omega
  refine .ok (v:=.int .u8 (s'.get! i.toNat).toNat) ?_ rfl
  simp only [execOp,ho,Instr.index,hx,hy,asIntOf,Sem.run_bind,Sem.run_pure,Result.andThen_ok,run_und,hT,h0,if_true]
  rw [getElem?_pos s' i.toNat hlt]
  simp [ByteArray.get!,hlt]
  rfl
 ·exact hp.elim
theorem q_ln {T ty:TypeId} {x:Operand} {s:SV} {nx:Nat} (ho:o.op=.call { callee:=.builtin .len,args:=#[x],argTypes:=#[T] }) (h:holds g w s (ρ x)) (hp:(lnV nx s (P.underlying T)).p):Quiet P o ρ g w (lnV nx s (P.underlying T)).r:=by
 have key:∀ n:Int,(Builtin.len_ #[T] o.type #[ρ x]).run P w=.ok (.int .i64 n) w→(execOp ρ o).run P w=.ok (.value (.int .i64 n)) w:=fun n hr=>by
  simp only [execOp,ho,resolve,Sem.run_bind,Sem.run_pure,Result.andThen_ok,invoke,builtin,List.map_toArray,List.map_cons,List.map_nil,hr]
 unfold lnV at hp ⊢
 split at hp
 ·rename_i n k cs e hT
  obtain ⟨a,c,e1,_⟩:=h
  exact .ok (key _ (by simp [Builtin.len_,run_und,hT,e1,goInt])) rfl
 ·rename_i s1 v1 n k1 e hT
  obtain ⟨_,hn,e1 | ⟨e0,e1⟩⟩:=h
  ·exact .ok (key _ (by simp [Builtin.len_,run_und,hT,e1,goInt])) rfl
  ·obtain rfl:n=0:=by omega
   exact .ok (key _ (by simp [Builtin.len_,run_und,hT,e1,goInt])) rfl
 ·rename_i a n c e hT
  have e1:ρ x=.slice a n c:=h
  exact .ok (key _ (by simp [Builtin.len_,run_und,hT,e1,goInt])) rfl
 ·rename_i s' hT
  have e1:ρ x=.string s':=h
  exact .ok (key _ (by simp [Builtin.len_,run_und,hT,e1,goInt])) rfl
 ·exact hp.elim
theorem run_cellsFrom:∀ (n:Nat) (vs:List Value) (b off i:Nat) (acc:Array Value) (W:World),vs.length=n→(∀ j x,vs[j]?=some x→W.cell? ⟨b,off + i + j,none⟩=some x)→(loadCellsFrom ⟨b,off,none⟩ i n acc).run P W=.ok (acc ++ vs.toArray) W
 | 0,[],_,_,_,acc,W,_,_=>by simp [loadCellsFrom]
 | n + 1,v :: vs,b,off,i,acc,W,hl,h=>by
   have h0:W.cell? ((⟨b,off,none⟩:Addr).add i)=some v:=by
    have:=h 0 v rfl
    unfold Addr.add
    by_cases hi:i=0 <;> simp [hi] at this ⊢ <;> exact this
   have ih:=run_cellsFrom n vs b off (i + 1) (acc.push v) W (by simpa using hl) fun j x e=>by
    have:=h (j + 1) x (by simpa using e)
    rw [show off + (i + 1) + j=off + i + (j + 1) by omega];exact this
   simp only [loadCellsFrom,Sem.run_bind]
   have hr:(load ((⟨b,off,none⟩:Addr).add i)).run P W=.ok v W:=by simp [load,Sem.run,h0]
   rw [hr]
   simp only [Result.andThen_ok,ih]
   simp
theorem run_loadVar {T n:Nat} {b:Option Bool} (hT:szT P T=n) (h0:0 < n) (ha:agT P T=b) (hb:b≠none) {cs:List SV} {bl off:Nat} {vs:List Value} (hv:agL g w (cs.take n) vs) (hn:n≤cs.length) (hc:∀ j x,vs[j]?=some x→w.cell? ⟨bl,off + j,none⟩=some x):
 ∃ v,(loadVar T ⟨bl,off,none⟩).run P w=.ok v w∧holds g w (partS b n cs) v:=by
 obtain ⟨b,rfl⟩:=Option.ne_none_iff_exists'.1 hb
 have hl:=hv.len
 rw [List.length_take] at hl
 unfold loadVar
 simp only [Sem.run_bind,run_isAgg ha,Result.andThen_ok]
 cases b with
 | true=>
   have hr:=run_cellsFrom (P:=P) n vs bl off 0 #[] w (by omega) (by simpa using hc)
   simp only [if_true,Sem.run_bind,run_sizeOf hT (by omega),Result.andThen_ok,loadCells,hr,Sem.run_pure]
   exact ⟨_,rfl,vs,by simp,hv⟩
 | false=>
   obtain ⟨c,ct,rfl⟩:∃ c ct,cs=c :: ct:=by cases cs with | nil=>simp at hn;omega | cons c ct=>exact ⟨c,ct,rfl⟩
   obtain ⟨v,vt,rfl⟩:∃ v vt,vs=v :: vt:=by cases vs with | nil=>simp at hl;omega | cons v vt=>exact ⟨v,vt,rfl⟩
   have h1:=hc 0 v rfl
   have:holds g w c v:=by
    obtain ⟨m,rfl⟩:∃ m,n=m + 1:=⟨n - 1,by omega⟩
    rw [List.take_succ_cons] at hv
    exact hv.1
   exact ⟨v,by simp [load,Sem.run,show w.cell? ⟨bl,off,none⟩=some v from h1],this⟩
theorem q_ld {T:TypeId} {x:Operand} {s:SV} {H:Nat→Option Row} {nx:Nat} (ho:o.op=.load T x) (h:holds g w s (ρ x)) (hr:∀ u ∈ (ldV (agT P T) (szT P T) H nx s).rd,∀ r,H u=some r→rowIn g w r) (hp:(ldV (agT P T) (szT P T) H nx s).p):Quiet P o ρ g w (ldV (agT P T) (szT P T) H nx s).r:=by
 have key:∀ b off v,ρ x=.pointer (some ⟨b,off,none⟩)→(loadVar T ⟨b,off,none⟩).run P w=.ok v w→(execOp ρ o).run P w=.ok (.value v) w:=fun b off v e hr=>by
  simp only [execOp,ho,Instr.loadAt,e,Instr.sureAddr,Sem.run_bind,Sem.run_pure,Result.andThen_ok,hr]
 cases s with
 | ptr s ver off=>
   cases hH:H s with
   | none=>simp only [ldV,hH] at hp;exact hp.elim
   | some r=>
     simp only [ldV,hH,ldR] at hp hr ⊢
     obtain ⟨hv,hl,h0,ha⟩:=hp
     obtain ⟨_,arr,h1,h2,h3,h4⟩:=(hr s (by simp) r hH).arr (by omega)
     obtain ⟨_,e⟩:=h
     subst hv
     have h5:=(h4.drop off).take (szT P T)
     obtain ⟨v,h6,h7⟩:=run_loadVar (P:=P) (T:=T) rfl h0 rfl ha (cs:=r.cs.drop off) (bl:=g.mu r.ver) (off:=off) h5 (by rw [List.length_drop];omega) fun j x hj=>by
      have hj1:j < szT P T:=by
       have:=(List.getElem?_eq_some_iff.1 hj).1
       rw [List.length_take] at this
       omega
      rw [List.getElem?_take_of_lt hj1,List.getElem?_drop,List.getElem?_take_of_lt (by omega)] at hj
      simpa [World.cell?,h1] using hj
     exact .ok (key _ _ _ e h6) h7
 | rp cs=>
   obtain ⟨b,off,e,hz,hc⟩:=h
   obtain ⟨hl,h0,ha⟩:=hp
   obtain ⟨vs,h1,h2⟩:=hc.vals
   obtain ⟨v,h6,h7⟩:=run_loadVar (P:=P) (T:=T) (g:=g.pure) rfl h0 rfl ha (cs:=cs) (bl:=b) (off:=off) (h1.take _) hl fun j x hj=>by
    have hj1:j < szT P T:=by
     have:=(List.getElem?_eq_some_iff.1 hj).1
     rw [List.length_take] at this
     omega
    rw [List.getElem?_take_of_lt hj1] at hj
    obtain ⟨y,e1,e2⟩:=h2 j (by omega)
    rw [e1] at hj
    cases hj
    exact e2
   exact .ok (key _ _ _ e h6) h7.up
 | _=>exact hp.elim
end
end Am
end Go.Proofs.YtkgbjoepjcenlaaDoor
namespace Go.Proofs.YtkgbjoepjcenlaaDoor
namespace Am
def cellsO:SV→Option (List SV)
 | .agg cs=>some cs
 | .v (.agg cs)=>some (cs.toList.map .v)
 | .any=>none
 | x=>some [x]
def flat:SV→Bool
 | .v (.agg _) | .v (.tuple _) | .agg _ | .tup _ | .any=>false
 | _=>true
def scal:Value→Bool
 | .agg _ | .tuple _=>false
 | _=>true
structure Chg (g g':Cx) (w w':World) (B:Nat→Prop) (nx:Nat):Prop where
 le:g.le g'
 z:g'.Z=g.Z
 ver:∀ u,g'.A u→g.A u∨(u=nx∧(g'.ka u≠0→g'.mu u < w'.heap.size))
 size:w.heap.size≤w'.heap.size
 blk:∀ b,b < w.heap.size→¬ B b→w'.heap[b]?=w.heap[b]?
 io:w'.os=w.os∧w'.tape=w.tape∧w'.output=w.output
def Eff (P:Program) (o:Oper) (ρ:Operand→Value) (g:Cx) (w:World) (H:Nat→Option Row) (nx:Nat) (fz:List Nat) (R:Rs):Prop:=
 ∃ (v:Value) (w':World) (g':Cx),((execOp ρ o).run P w=.ok (.value v) w'∨((execOp ρ o).run P w=.ok .skip w'∧v=undef))∧holds g' w' R.r v∧
  Chg g g' w w' (fun b=>∃ s r' r,R.wr=some (s,r')∧H s=some r∧g.ka r.ver≠0∧fz.contains s=false∧b=g.mu r.ver) nx∧(R.wr=none→g'=g∧w'=w)∧
  ∀ s r',R.wr=some (s,r')→rowIn g' w' r'∧(g'.ka r'.ver≠0→w.heap.size≤g'.mu r'.ver∨∃ r,H s=some r∧g.ka r.ver≠0∧g'.mu r'.ver=g.mu r.ver)
section
variable {P:Program} {g:Cx} {w:World} {ρ:Operand→Value} {o:Oper} {H:Nat→Option Row} {nx:Nat} {fz:List Nat}
theorem Chg.refl (g:Cx) (w:World) (B:Nat→Prop) (nx:Nat):Chg g g w w B nx:=⟨.refl g,rfl,fun _ h=>.inl h,Nat.le_refl _,fun _ _ _=>rfl,rfl,rfl,rfl⟩
theorem Quiet.eff {R:Rs} (h:Quiet P o ρ g w R.r) (hw:R.wr=none):Eff P o ρ g w H nx fz R:=by
 obtain ⟨v,h1,h2⟩:=h
 exact ⟨v,w,g,.inl h1,h2,.refl ..,fun _=>⟨rfl,rfl⟩,fun s r' e=>by rw [hw] at e;cases e⟩
theorem cellsO_holds {s:SV} {cs:List SV} {v:Value} (hs:cellsO s=some cs) (h:holds g w s v):agL g w cs v.cells.toList:=by
 cases s with
 | any=>cases hs
 | agg ds=>obtain ⟨vs,e,h⟩:=h;cases hs;subst e;exact h
 | v x=>
   have h:v=x:=h
   subst h
   cases v <;> simp only [cellsO] at hs <;> cases hs <;> first | exact agL.ofv _ | exact ⟨rfl,trivial⟩
 | sl n k ds=>cases hs;have:=h;obtain ⟨a,c,e,_⟩:=h;subst e;exact ⟨this,trivial⟩
 | tup ds=>cases hs;have:=h;obtain ⟨vs,e,_⟩:=h;subst e;exact ⟨this,trivial⟩
 | ptr s v o=>cases hs;have:=h;obtain ⟨_,e⟩:=h;subst e;exact ⟨this,trivial⟩
 | own s v n k=>cases hs;have:=h;obtain ⟨_,_,e | ⟨_,e⟩⟩:=h <;> subst e <;> exact ⟨this,trivial⟩
 | rp ds=>cases hs;have:=h;obtain ⟨b,o,e,_⟩:=h;subst e;exact ⟨this,trivial⟩
 | s q=>cases hs;have:=h;obtain ⟨a,n,c,e,_⟩:=h;subst e;exact ⟨this,trivial⟩
theorem flat_scal {s:SV} {v:Value} (hs:flat s=true) (h:holds g w s v):scal v=true:=by
 cases s with
 | v x=>have h:v=x:=h;subst h;cases v <;> first | rfl | cases hs
 | sl n k ds=>obtain ⟨a,c,e,_⟩:=h;subst e;rfl
 | ptr s v o=>obtain ⟨_,e⟩:=h;subst e;rfl
 | own s v n k=>obtain ⟨_,_,e | ⟨_,e⟩⟩:=h <;> subst e <;> rfl
 | rp ds=>obtain ⟨b,o,e,_⟩:=h;subst e;rfl
 | s q=>obtain ⟨a,n,c,e,_⟩:=h;subst e;rfl
 | _=>cases hs
theorem flats_scal:∀ {cs:List SV} {vs:List Value},cs.all flat=true→agL g w cs vs→vs.all scal=true
 | [],[],_,_=>rfl
 | c :: cs,v :: vs,hf,h=>by
   rw [List.all_cons,Bool.and_eq_true] at hf ⊢
   exact ⟨flat_scal hf.1 h.1,flats_scal hf.2 h.2⟩
def Cx.add (g:Cx) (n b k:Nat):Cx:=⟨g.Z,fun u=>g.A u∨u=n,fun u=>if u=n then b else g.mu u,fun u=>if u=n then k else g.ka u⟩
theorem Cx.le_add {n b k:Nat} (h:¬ g.A n):g.le (g.add n b k):=
 ⟨fun _ h=>h,fun u hu=>⟨.inl hu,by simp [Cx.add,show u≠n from fun e=>h (e ▸ hu)],by simp [Cx.add,show u≠n from fun e=>h (e ▸ hu)]⟩⟩
theorem heap_alloc_old {o:Obj} {b:Nat} (h:b < w.heap.size):(w.alloc o).heap[b]?=w.heap[b]?:=by
 show (w.heap.push o)[b]?=_;rw [Array.getElem?_push_lt h,Array.getElem?_eq_getElem h]
theorem heap_alloc_new {o:Obj}:(w.alloc o).heap[w.heap.size]?=some o:=by show (w.heap.push o)[w.heap.size]?=_;simp
theorem heap_alloc_size {o:Obj}:(w.alloc o).heap.size=w.heap.size + 1:=by show (w.heap.push o).size=_;simp
theorem new_row {T k n:Nat} {arr:Array Value} {cs:List SV} (hn:¬ g.A nx) (hz:∀ b,g.Z b→b < w.heap.size) (hk:arr.size=n * k) (hl:cs.length≤arr.size) (h:agL g w cs (arr.toList.take cs.length)):
 ∃ g' w',g'=g.add nx w.heap.size n∧w'=w.alloc (.cells arr T)∧(∀ B,Chg g g' w w' B nx)∧rowIn g' w' ⟨nx,T,k,cs⟩∧g'.A nx∧g'.mu nx=w.heap.size∧g'.ka nx=n:=by
 have hle:g.le (g.add nx w.heap.size n):=Cx.le_add hn
 have hw:∀ b,g.Z b→(w.alloc (.cells arr T)).heap[b]?=w.heap[b]?:=fun b hb=>heap_alloc_old (hz b hb)
 have hm:(g.add nx w.heap.size n).mu nx=w.heap.size:=by simp [Cx.add]
 have hka:(g.add nx w.heap.size n).ka nx=n:=by simp [Cx.add]
 refine ⟨_,_,rfl,rfl,fun B=>⟨hle,rfl,fun u hu=>?_,by rw [heap_alloc_size];omega,fun b hb _=>heap_alloc_old hb,rfl,rfl,rfl⟩,⟨.inr rfl,.inr ⟨arr,?_,?_,hl,h.mono hle hw⟩⟩,.inr rfl,hm,hka⟩
 ·rcases hu with hu | hu
  ·exact .inl hu
  ·exact .inr ⟨hu,fun _=>by subst hu;rw [hm,heap_alloc_size];omega⟩
 ·show (w.alloc (.cells arr T)).heap[(g.add nx w.heap.size n).mu nx]?=_
  rw [hm];exact heap_alloc_new
 ·show arr.size=(g.add nx w.heap.size n).ka nx * k
  rw [hka];exact hk
theorem eff_new {T k n d:Nat} {arr:Array Value} {cs:List SV} {r:SV} {v:Value} {rd:List Nat} {p:Prop} {nx':Nat} (hn:¬ g.A nx) (hz:∀ b,g.Z b→b < w.heap.size) (hk:arr.size=n * k) (hl:cs.length≤arr.size) (h:agL g w cs (arr.toList.take cs.length))
 (hr:(execOp ρ o).run P w=.ok (.value v) (w.alloc (.cells arr T))) (hv:∀ g' w',g'.A nx→g'.mu nx=w.heap.size→g'.ka nx=n→holds g' w' r v):Eff P o ρ g w H nx fz ⟨p,r,rd,some (d,⟨nx,T,k,cs⟩),nx'⟩:=by
 obtain ⟨g',w',e1,e2,h1,h2,h3,h4,h5⟩:=new_row (T:=T) hn hz hk hl h
 refine ⟨v,w',g',.inl (by rw [e2];exact hr),hv _ _ h3 h4 h5,h1 _,fun h=>(by cases h),fun s r' e=>?_⟩
 cases e
 exact ⟨h2,fun _=>.inl (by show w.heap.size≤g'.mu nx;omega)⟩
def alV (T:TypeId) (d nx:Nat):Option Value→Rs
 | some z=>⟨True,.ptr d nx 0,[],some (d,⟨nx,T,z.cells.size,z.cells.toList.map .v⟩),nx + 1⟩
 | none=>bad nx
theorem run_zero {T:Nat} {z:Value} (h:zcT P T=some z) (W:World):(zeroValue T).run P W=.ok z W:=by
 unfold zcT zeroValue typeInfo at *
 simp only [Sem.run_bind,run_program,Result.andThen_ok] at *
 cases hi:P.info? T with
 | none=>simp [hi,stuck] at h
 | some i=>
   cases hz:i.zero with
   | none=>simp [hi,hz,unsupported] at h
   | some z'=>simpa [hi,hz] using h
theorem e_al {T d:Nat} (ho:o.op=.alloc T) (hn:(alV T d nx (zcT P T)).wr≠none→¬ g.A nx) (hz:∀ b,g.Z b→b < w.heap.size) (hp:(alV T d nx (zcT P T)).p):Eff P o ρ g w H nx fz (alV T d nx (zcT P T)):=by
 cases hc:zcT P T with
 | none=>rw [hc] at hp;exact hp.elim
 | some z=>
   have hn:=hn (by rw [hc];simp [alV])
   refine eff_new (n:=1) (arr:=z.cells) (v:=.pointer (some ⟨w.heap.size,0,none⟩)) hn hz (by simp) (by simp) ?_ ?_ fun g' w' h1 h2 _=>⟨h1,by rw [h2]⟩
   ·have:z.cells.toList.take ((z.cells.toList.map SV.v).length)=z.cells.toList:=List.take_of_length_le (by simp)
    rw [this];exact agL.ofv _
   ·simp only [execOp,ho,Instr.alloc,Sem.run_bind,run_zero hc,Result.andThen_ok,newVar,newRow,newObj,Sem.run,Sem.run_pure,World.alloc]
    try rfl
def bxV (T:TypeId) (d nx:Nat):Option (List SV)→Rs
 | some cs=>⟨True,.ptr d nx 0,[],some (d,⟨nx,T,cs.length,cs⟩),nx + 1⟩
 | none=>bad nx
theorem e_bx {T d:Nat} {x:Operand} {s:SV} (ho:o.op=.box T x) (h:holds g w s (ρ x)) (hn:(bxV T d nx (cellsO s)).wr≠none→¬ g.A nx) (hz:∀ b,g.Z b→b < w.heap.size) (hp:(bxV T d nx (cellsO s)).p):Eff P o ρ g w H nx fz (bxV T d nx (cellsO s)):=by
 cases hc:cellsO s with
 | none=>rw [hc] at hp;exact hp.elim
 | some cs=>
   have hn:=hn (by rw [hc];simp [bxV])
   have hh:=cellsO_holds hc h
   have hl:cs.length=(ρ x).cells.size:=by simpa using hh.len
   refine eff_new (n:=1) (arr:=(ρ x).cells) (v:=.pointer (some ⟨w.heap.size,0,none⟩)) hn hz (by simp [hl]) (by omega) ?_ ?_ fun g' w' h1 h2 _=>⟨h1,by rw [h2]⟩
   ·rw [List.take_of_length_le (by simp [hl])];exact hh
   ·simp only [execOp,ho,Instr.box,Sem.run_bind,newVar,newRow,newObj,Sem.run,Sem.run_pure,Result.andThen_ok,World.alloc]
    try rfl
theorem ovw_len {α:Type} {cs new:List α} {o:Nat} (h:o + new.length≤cs.length):(ovw cs o new).length=cs.length:=by
 unfold ovw;simp;omega
theorem agL.ovw {cs new:List SV} {vs us:List Value} (h:agL g w cs vs) (k:agL g w new us) (o:Nat):agL g w (ovw cs o new) (ovw vs o us):=by
 unfold Am.ovw
 rw [← k.len]
 exact ((h.take o).append k).append (h.drop _)
theorem ovw_cons {α:Type} (l:List α) (o:Nat) (x:α) (xs:List α) (h:o < l.length):ovw (l.set o x) (o + 1) xs=ovw l o (x :: xs):=by
 unfold ovw
 have e1:(l.set o x).take (o + 1)=l.take o ++ [x]:=by
  rw [List.take_set,List.take_succ_eq_append_getElem h,List.set_append_right _ _ (by rw [List.length_take];exact Nat.min_le_left ..)]
  simp [List.length_take,Nat.min_eq_left (Nat.le_of_lt h)]
 rw [e1,List.drop_set_of_lt (by rw [Nat.add_assoc];omega)]
 simp [Nat.add_assoc,Nat.add_comm 1]
theorem run_store {a:Addr} {v:Value} (hs:scal v=true) {x:Value} (hc:w.cell? a=some x) (hf:w.frozen? a=false):(store a v).run P w=.ok () (w.setCell a v):=by
 unfold store
 cases v <;> first | (exact Bool.noConfusion hs) | (rw [Sem.run.eq_def];simp only [hc,hf];first | rfl | simp)
theorem run_storeCells:∀ (vs:List Value) (arr:Array Value) (T:TypeId) (w:World) (b off i:Nat),w.heap[b]?=some (.cells arr T (0,0))→vs.all scal=true→off + i + vs.length≤arr.size→
 ∃ w' arr',(storeCells ⟨b,off,none⟩ vs i).run P w=.ok () w'∧w'.heap[b]?=some (.cells arr' T (0,0))∧arr'.size=arr.size∧arr'.toList=ovw arr.toList (off + i) vs∧w'.heap.size=w.heap.size∧(∀ c,c≠b→w'.heap[c]?=w.heap[c]?)∧w'.os=w.os∧w'.tape=w.tape∧w'.output=w.output
 | [],arr,T,w,b,off,i,h,_,hl=>⟨w,arr,by simp [storeCells],h,rfl,by simp [ovw],rfl,fun _ _=>rfl,rfl,rfl,rfl⟩
 | v :: vs,arr,T,w,b,off,i,h,hs,hl=>by
   rw [List.all_cons,Bool.and_eq_true] at hs
   rw [List.length_cons] at hl
   have ha:(⟨b,off,none⟩:Addr).add i=⟨b,off + i,none⟩:=by unfold Addr.add;by_cases hi:i=0 <;> simp [hi]
   have hc:w.cell? ⟨b,off + i,none⟩=some (arr[off + i]'(by omega)):=by simp [World.cell?,h,show off + i < arr.size by omega]
   have hf:w.frozen? ⟨b,off + i,none⟩=false:=by simp [World.frozen?,h]
   have hb:b < w.heap.size:=(Array.getElem?_eq_some_iff.1 h).1
   have hn:(w.setCell ⟨b,off + i,none⟩ v).heap[b]?=some (.cells (arr.setIfInBounds (off + i) v) T (0,0)):=by
    simp [World.setCell,Array.getElem?_modify,h]
   obtain ⟨w',arr',h1,h2,h3,h4,h5,h6,h7⟩:=run_storeCells vs (arr.setIfInBounds (off + i) v) T (w.setCell ⟨b,off + i,none⟩ v) b off (i + 1) hn hs.2 (by simp;omega)
   refine ⟨w',arr',?_,h2,by simpa using h3,?_,by simpa [World.setCell] using h5,fun c hc=>(h6 c hc).trans (by simp [World.setCell,Array.getElem?_modify,Ne.symm hc]),h7⟩
   ·simp only [storeCells,Sem.run_bind,ha,run_store hs.1 hc hf,Result.andThen_ok,h1]
   ·rw [h4,Array.toList_setIfInBounds,← ovw_cons _ _ _ _ (by simpa using (show off + i < arr.size by omega))];rfl
def stR (k ver off s nx:Nat) (fz:List Nat) (new:List SV):Option Row→Rs
 | some r=>⟨r.ver=ver∧off + new.length≤r.cs.length∧new.length=k∧0 < k∧new.all flat=true∧fz.contains s=false,.v undef,[],some (s,⟨r.ver,r.T,r.k,ovw r.cs off new⟩),nx⟩
 | none=>bad nx
def stV (k:Nat) (H:Nat→Option Row) (fz:List Nat) (nx:Nat):SV→Option (List SV)→Rs
 | .ptr s v o,some new=>stR k v o s nx fz new (H s)
 | _,_=>bad nx
theorem e_st {T:Nat} {x y:Operand} {s t:SV} (ho:o.op=.store T x y) (h:holds g w s (ρ x)) (hy:holds g w t (ρ y)) (hr:∀ u r,H u=some r→(∃ r',(stV (szT P T) H fz nx s (cellsO t)).wr=some (u,r'))→rowIn g w r∧(fz.contains u=false→g.ka r.ver≠0→¬ g.Z (g.mu r.ver)))
 (hp:(stV (szT P T) H fz nx s (cellsO t)).p):Eff P o ρ g w H nx fz (stV (szT P T) H fz nx s (cellsO t)):=by
 cases s with
 | ptr s ver off=>
   cases hc:cellsO t with
   | none=>rw [hc] at hp;exact hp.elim
   | some new=>
     rw [hc] at hp hr
     cases hH:H s with
     | none=>simp only [stV,hH] at hp;exact hp.elim
     | some r=>
       simp only [stV,hH,stR] at hp hr ⊢
       obtain ⟨hv,hl,hk,h0,hfl,hz⟩:=hp
       obtain ⟨hrow,hz'⟩:=hr s r hH ⟨_,rfl⟩
       obtain ⟨hka,arr,h1,h2,h3,h4⟩:=hrow.arr (by omega)
       have hz':=hz' hz hka
       have ha:=hrow.1
       obtain ⟨_,e⟩:=h
       subst hv
       have hn:=cellsO_holds hc hy
       have hnl:=hn.len
       obtain ⟨w',arr',k1,k2,k3,k4,k5,k6,k7⟩:=run_storeCells (P:=P) (ρ y).cells.toList arr r.T w (g.mu r.ver) off 0 h1 (flats_scal hfl hn) (by omega)
       have hzz:∀ b,g.Z b→w'.heap[b]?=w.heap[b]?:=fun b hb=>k6 b fun e=>hz' (e ▸ hb)
       refine ⟨undef,w',g,.inr ⟨?_,rfl⟩,rfl,⟨.refl g,rfl,fun _ h=>.inl h,by omega,fun b hb hB=>k6 b fun e=>hB ⟨s,_,r,rfl,hH,hka,hz,e⟩,k7⟩,fun h=>(by cases h),fun u r' e'=>?_⟩
       ·simp only [execOp,ho,Instr.storeAt,e,Instr.sureAddr,Sem.run_bind,Sem.run_pure,Result.andThen_ok,storeVar,run_sizeOf (P:=P) (T:=T) rfl (by omega)]
        have:¬ (ρ y).cells.size≠szT P T:=by rw [← hk,hnl];simp
        simp only [this,if_false,Sem.run_bind,Sem.run_pure,Result.andThen_ok,k1]
       ·simp only [Option.some.injEq,Prod.mk.injEq] at e'
        obtain ⟨rfl,rfl⟩:=e'
        refine ⟨⟨ha,.inr ⟨arr',k2,k3.trans h2,by rw [ovw_len hl,k3];exact h3,?_⟩⟩,fun _=>.inr ⟨r,hH,hka,rfl⟩⟩
        simp only [ovw_len hl]
        rw [k4,Nat.add_zero]
        have:=(h4.mono (.refl g) hzz).ovw (hn.mono (.refl g) hzz) off
        have e2:ovw (arr.toList.take r.cs.length) off (ρ y).cells.toList=(ovw arr.toList off (ρ y).cells.toList).take r.cs.length:=by
         unfold ovw
         rw [hnl] at hl
         rw [List.take_append,List.take_append,List.take_take,Nat.min_eq_left (by omega)]
         have:(arr.toList.take off).length=off:=by rw [List.length_take];simp;omega
         rw [List.length_append,this,List.take_take,Nat.min_eq_right (by omega),List.take_of_length_le (l:=(ρ y).cells.toList) (by omega),List.drop_take]
        rw [e2] at this
        exact this
 | _=>cases hc:cellsO t <;> rw [hc] at hp <;> exact hp.elim
end
end Am
end Go.Proofs.YtkgbjoepjcenlaaDoor
