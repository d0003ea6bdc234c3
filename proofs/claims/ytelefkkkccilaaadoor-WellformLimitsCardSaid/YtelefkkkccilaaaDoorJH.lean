/- Joined texts. -/
import Derived.Test.YtelefkkkccilaaaDoorJC
import Derived.Test.YtelefkkkccilaaaDoorJD
import Derived.Test.YtelefkkkccilaaaDoorJG
import Derived.Test.YtelefkkkccilaaaDoorJE
import Derived.Test.YtelefkkkccilaaaDoorLA
set_option linter.unusedVariables false
set_option linter.unusedSimpArgs false
namespace Go.Proofs.YtelefkkkccilaaaDoor
open Am Go.RowKit
set_option maxRecDepth 100000
def XL (LB:Nat):Ev:=⟨fun w=>Env w∧LB≤w.heap.size,XU.D,fun w w' hs h k=>⟨XU.st w w' hs h.1 k,Nat.le_trans h.2 hs⟩,fun w b h hb=>XU.lt w b h.1 hb⟩
theorem AC.up {P:Program} {f:FuncId} {args:List SV} {rows:List Row} {C:SV→List Row→Prop} (LB:Nat) (h:AC P XU f args rows C):AC P (XL LB) f args rows C:=
 ⟨fun g w vals nx hE a b c d e i=>(h.out g w vals nx hE.1 a b c d e i).mono fun en w' H=>by
  obtain ⟨v,r,rows',g',h1,h2,h3,h4,h5,h6,h7,h8,h9,h10,h11,h12,h13⟩:=H;exact ⟨v,r,rows',g',h1,h2,h3,h4,h5,h6,h7,h8,h9,h10,h11,h12,h13,Nat.le_trans hE.2 h10⟩⟩
def TWb (Z:Nat→Prop) (w:World) (b:List UInt8) (a:Option Addr):Prop:=b=[]∨∃ d o,a=some ⟨d,o,none⟩∧Z d∧∀ (i:Nat) (h:i < b.length),w.cell? ⟨d,o + i,none⟩=some (.int .u8 (b[i].toNat:Int))
mutual
def TWi (Z:Nat→Prop) (w:World):It→List Value→List Nat→Prop
 | .mk k n b ks,vs,S=>∃ ba bc ia ic,vs=[.int .i64 k,.int .u64 (n:Int),.slice ba b.length bc,.slice ia ks.length ic]∧(b.length≤bc∧bc≤9223372036854775807)∧TWb Z w b ba∧(ks.length≤ic∧ic≤9223372036854775807)∧
   ((ks=[]∧S=[])∨∃ d arr S2,ia=some ⟨d,0,none⟩∧Z d∧w.heap[d]?=some (.cells arr 31 (0,0))∧arr.size=ic * 4∧TWl (fun b=>Z b∧b≠d) w ks (arr.toList.take (ks.length * 4)) S2∧S=d :: S2)
def TWl (Z:Nat→Prop) (w:World):List It→List Value→List Nat→Prop
 | [],vs,S=>vs=[]∧S=[]
 | x :: xs,vs,S=>∃ v1 vs2 S1 S2,vs=v1 ++ vs2∧S=S1 ++ S2∧TWi Z w x v1 S1∧TWl Z w xs vs2 S2
end
def TWk (Z:Nat→Prop) (w:World) (ks:List It) (ia:Option Addr) (ic:Nat) (S:List Nat):Prop:=
 (ks=[]∧S=[])∨∃ d arr S2,ia=some ⟨d,0,none⟩∧Z d∧w.heap[d]?=some (.cells arr 31 (0,0))∧arr.size=ic * 4∧TWl (fun b=>Z b∧b≠d) w ks (arr.toList.take (ks.length * 4)) S2∧S=d :: S2
section
variable {Z Z':Nat→Prop} {w w':World}
theorem TWb.mono {b:List UInt8} {a:Option Addr} (hz:∀ b,Z b→Z' b) (hw:∀ b,Z b→w'.heap[b]?=w.heap[b]?) (h:TWb Z w b a):TWb Z' w' b a:=
 h.imp id fun ⟨d,o,e,hd,hc⟩=>⟨d,o,e,hz d hd,fun i hi=>(cell_eq (hw d hd) _).trans (hc i hi)⟩
mutual
theorem TWi.mono0:∀ (x:It) (Z Z':Nat→Prop) (vs:List Value) (S:List Nat),(∀ b,Z b→Z' b)→(∀ b,Z b→w'.heap[b]?=w.heap[b]?)→TWi Z w x vs S→TWi Z' w' x vs S
 | .mk k n b ks,Z,Z',vs,S,hz,hw,h=>by
   unfold TWi at h ⊢;obtain ⟨ba,bc,ia,ic,e,h1,h2,h3,h4⟩:=h;exact ⟨ba,bc,ia,ic,e,h1,h2.mono hz hw,h3,h4.imp id fun ⟨d,arr,S2,e1,hd,e2,e3,e4,e5⟩=>⟨d,arr,S2,e1,hz d hd,(hw d hd).trans e2,e3,TWl.mono0 ks _ _ _ _ (fun b h=>⟨hz b h.1,h.2⟩) (fun b h=>hw b h.1) e4,e5⟩⟩
theorem TWl.mono0:∀ (l:List It) (Z Z':Nat→Prop) (vs:List Value) (S:List Nat),(∀ b,Z b→Z' b)→(∀ b,Z b→w'.heap[b]?=w.heap[b]?)→TWl Z w l vs S→TWl Z' w' l vs S
 | [],Z,Z',vs,S,hz,hw,h=>by unfold TWl at h ⊢;exact h
 | x :: xs,Z,Z',vs,S,hz,hw,h=>by
   unfold TWl at h ⊢;obtain ⟨v1,vs2,S1,S2,e1,e2,h1,h2⟩:=h;exact ⟨v1,vs2,S1,S2,e1,e2,TWi.mono0 x _ _ _ _ hz hw h1,TWl.mono0 xs _ _ _ _ hz hw h2⟩
end
theorem TWi.mono (hz:∀ b,Z b→Z' b) (hw:∀ b,Z b→w'.heap[b]?=w.heap[b]?) (x:It) (vs:List Value) (S:List Nat) (h:TWi Z w x vs S):TWi Z' w' x vs S:=TWi.mono0 x _ _ vs S hz hw h
theorem TWl.mono (hz:∀ b,Z b→Z' b) (hw:∀ b,Z b→w'.heap[b]?=w.heap[b]?) (l:List It) (vs:List Value) (S:List Nat) (h:TWl Z w l vs S):TWl Z' w' l vs S:=TWl.mono0 l _ _ vs S hz hw h
mutual
theorem TWi.z:∀ (x:It) {Z:Nat→Prop} {vs:List Value} {S:List Nat},TWi Z w x vs S→∀ b ∈ S,Z b
 | .mk k n b ks,Z,vs,S,h,c,hc=>by
   unfold TWi at h;obtain ⟨ba,bc,ia,ic,e,h1,h2,h3,h4 | ⟨d,arr,S2,e1,hd,e2,e3,e4,e5⟩⟩:=h
   ·rw [h4.2] at hc;cases hc
   ·subst e5
    rcases List.mem_cons.1 hc with rfl | hc
    ·exact hd
    ·exact (TWl.z ks e4 c hc).1
theorem TWl.z:∀ (l:List It) {Z:Nat→Prop} {vs:List Value} {S:List Nat},TWl Z w l vs S→∀ b ∈ S,Z b
 | [],Z,vs,S,h,c,hc=>by unfold TWl at h;rw [h.2] at hc;cases hc
 | x :: xs,Z,vs,S,h,c,hc=>by
   unfold TWl at h;obtain ⟨v1,vs2,S1,S2,e1,e2,h1,h2⟩:=h;subst e2;rcases List.mem_append.1 hc with hc | hc
   ·exact TWi.z x h1 c hc
   ·exact TWl.z xs h2 c hc
end
theorem TWk.mono {ks:List It} {a:Option Addr} {ic:Nat} {S:List Nat} (hz:∀ b,Z b→Z' b) (hw:∀ b,Z b→w'.heap[b]?=w.heap[b]?) (h:TWk Z w ks a ic S):TWk Z' w' ks a ic S:=
 h.imp id fun ⟨d,arr,S2,e1,hd,e2,e3,e4,e5⟩=>⟨d,arr,S2,e1,hz d hd,(hw d hd).trans e2,e3,TWl.mono (fun b h=>⟨hz b h.1,h.2⟩) (fun b h=>hw b h.1) ks _ _ e4,e5⟩
theorem TWk.z {ks:List It} {a:Option Addr} {ic:Nat} {S:List Nat} (h:TWk Z w ks a ic S):∀ b ∈ S,Z b:=by
 rcases h with h | ⟨d,arr,S2,e1,hd,e2,e3,e4,rfl⟩
 ·intro b hb;rw [h.2] at hb;cases hb
 ·intro b hb
  rcases List.mem_cons.1 hb with rfl | hb
  ·exact hd
  ·exact (TWl.z ks e4 b hb).1
theorem TWi.of {k:Int} {n:Nat} {b:List UInt8} {ks:List It} {ba ia:Option Addr} {bc ic:Nat} {S:List Nat} (h1:b.length≤bc∧bc≤9223372036854775807) (h2:TWb Z w b ba) (h3:ks.length≤ic∧ic≤9223372036854775807) (h4:TWk Z w ks ia ic S):TWi Z w (.mk k n b ks) [.int .i64 k,.int .u64 (n:Int),.slice ba b.length bc,.slice ia ks.length ic] S:=by
 unfold TWi;exact ⟨ba,bc,ia,ic,rfl,h1,h2,h3,h4⟩
end
def twk (ks:List It) (S:List Nat):SlP:=⟨fun Z w a n c=>n=ks.length∧(n≤c∧c≤9223372036854775807)∧TWk Z w ks a c S,fun hz hw h=>⟨h.1,h.2.1,h.2.2.mono hz hw⟩⟩
abbrev itz (x:It) (S:List Nat):List SV:=[iv x.kind,uv x.num,bsl x.bytes,.s (twk x.kids S)]
def zsL:List (It × List Nat)→List SV
 | []=>[]
 | z :: l=>itz z.1 z.2 ++ zsL l
section
variable (l:List (It × List Nat)) (z:It × List Nat) (n:Nat)
@[go_sem] theorem zsL_nil:zsL []=[]:=rfl
theorem zsL_cons:zsL (z :: l)=itz z.1 z.2 ++ zsL l:=rfl
@[go_sem] theorem zsL_len:(zsL l).length=l.length * 4:=by
 induction l with
 | nil=>rfl
 | cons x l ih=>rw [zsL_cons,List.length_append,ih];simp;omega
theorem zsL_app:zsL l ++ itz z.1 z.2=zsL (l ++ [z]):=by
 induction l with
 | nil=>simp [zsL_cons,zsL_nil]
 | cons y l ih=>rw [List.cons_append,zsL_cons,zsL_cons,List.append_assoc,ih]
@[go_sem] theorem zsL_flat:(zsL l).all flat=true:=by
 induction l with
 | nil=>rfl
 | cons y l ih=>rw [zsL_cons,List.all_append,ih];rfl
@[go_sem] theorem zsL_cv (H):(zsL l).map (cv H (n + 1))=zsL l:=by
 induction l with
 | nil=>rfl
 | cons y l ih=>rw [zsL_cons,List.map_append,ih];rfl
end
section
variable {g:Cx} {w:World}
theorem twb_of {b:List UInt8} {v:Value} (h:holds g w (bsl b) v):∃ a c,v=.slice a b.length c∧(b.length≤c∧c≤9223372036854775807)∧TWb g.Z w b a:=by
 have hb:b.length≤9223372036854775807:=by obtain ⟨a,c,_,hc,_⟩:=h;omega
 obtain ⟨a,c,rfl,hc,hB⟩:=bro_of h hb;refine ⟨a,c,rfl,hc,?_⟩;by_cases h0:b=[]
 ·exact .inl h0
 ·right
  have hl:0 < b.length:=List.length_pos_iff.2 h0;obtain ⟨d,o,ea,hd,_⟩:=hB.2.2 0 hl;refine ⟨d,o,ea,hd,fun i hi=>?_⟩;obtain ⟨d',o',ea',_,hc'⟩:=hB.2.2 i hi;rw [ea] at ea';cases ea';exact hc'
theorem twi_of {x:It} {S:List Nat} {vs:List Value} (h:agL g w (itz x S) vs):TWi g.Z w x vs S:=by
 obtain ⟨k,n,b,ks⟩:=x
 match vs,h with
 | [v1,v2,v3,v4],h=>
   obtain ⟨h1,h2,h3,h4,_⟩:=h;have h1:v1=.int .i64 k:=h1;have h2:v2=.int .u64 (n:Int):=h2;obtain ⟨a,c,rfl,hc,hB⟩:=twb_of h3;obtain ⟨a2,n2,c2,rfl,rfl,hc2,hT⟩:=h4;rw [h1,h2];exact TWi.of hc hB hc2 hT
theorem twl_of:∀ {zs:List (It × List Nat)} {vs:List Value},agL g w (zsL zs) vs→TWl g.Z w (zs.map (·.1)) vs (zs.flatMap (·.2))
 | [],[],_=>by unfold TWl;exact ⟨rfl,rfl⟩
 | [],_ :: _,h=>h.elim
 | z :: zs,vs,h=>by
   have h:agL g w (itz z.1 z.2 ++ zsL zs) vs:=h;have hl:=h.len;have h1:=h.take 4;have h2:=h.drop 4;rw [show (itz z.1 z.2 ++ zsL zs).take 4=itz z.1 z.2 from rfl] at h1;rw [show (itz z.1 z.2 ++ zsL zs).drop 4=zsL zs from rfl] at h2;rw [List.map_cons,List.flatMap_cons];unfold TWl;exact ⟨vs.take 4,vs.drop 4,z.2,_,(List.take_append_drop 4 vs).symm,rfl,twi_of h1,twl_of h2⟩
end
def isZ (LB:Nat) (x:It) (a:SV):Prop:=∃ S:List Nat,S.Nodup∧(∀ c ∈ S,LB≤c)∧a=.agg (itz x S)
def isE (LB:Nat) (l:List It) (a:SV):Prop:=∃ S:List Nat,S.Nodup∧(∀ c ∈ S,LB≤c)∧a=.s (twk l S)
def nlE (a:SV):Prop:=a=.v (.slice none 0 0)
abbrev zrow (v:Nat) (zs:List (It × List Nat)):Row:=⟨v,31,4,zsL zs⟩
theorem rr_z {g:Cx} {w:World} {ver:Nat} {b:List UInt8} {p it:Nat} {lo bt:Bool} {g2:Cx} (h:rowIn g w (RR ver b p it lo bt)) (hz:∀ c,g.Z c→g2.Z c) (hA:g2.A ver) (hm:g2.mu=g.mu) (hk:g2.ka=g.ka):rowIn g2 w (RR ver b p it lo bt):=by
 obtain ⟨ha,h⟩:=h;refine ⟨hA,?_⟩;rcases h with h | ⟨arr,h1,h2,h3,h4⟩
 ·exact absurd h.2 (by simp)
 ·right
  refine ⟨arr,by rw [hm];exact h1,by rw [hk];exact h2,h3,?_⟩;generalize arr.toList.take _=vs at h4 ⊢
  match vs,h4 with
  | [v1,v2,v3,v4,v5],h4=>exact ⟨holds.up (holds.mono (g:=g.pure) (g':=g2.pure) ⟨hz,fun _ h=>h.elim⟩ (fun _ _=>rfl) _ _ h4.1),h4.2.1,h4.2.2.1,h4.2.2.2.1,h4.2.2.2.2.1,trivial⟩
def RdL (LB ver v:Nat) (b:List UInt8) (zs:List (It × List Nat)) (R:Except Nat (It × Nat × Nat × Bool × Bool)) (r:SV) (rows:List Row):Prop:=match R with
 | .error e=>(∃ a,zI a∧r=.tup [a,iv e])∧∃ p it lo bt,rows=[RR ver b p it lo bt,zrow v zs]
 | .ok (x,p,it,lo,bt)=>(∃ S:List Nat,S.Nodup∧(∀ c ∈ S,LB≤c)∧(∀ c ∈ S,c ∉ zs.flatMap (·.2))∧r=.tup [.agg (itz x S),iv 0])∧rows=[RR ver b p it lo bt,zrow v zs]
theorem AC.lend {f:FuncId} {args:List SV} {LB ver v:Nat} {b:List UInt8} {p it:Nat} {lo bt:Bool} {zs:List (It × List Nat)} {R:Except Nat (It × Nat × Nat × Bool × Bool)} (h:∀ LB,AC Tryd.prog (XL LB) f args [RR ver b p it lo bt] (RdN ver b zI (isZ LB) R)):
 AC Tryd.prog (XL LB) f args [RR ver b p it lo bt,zrow v zs] (RdL LB ver v b zs R):=
 ⟨fun g w vals nx hE hz hA hb ha hrow hap=>by
  have hr0:=hrow (RR ver b p it lo bt) (by simp);have hq0:=hrow (zrow v zs) (by simp);have h1:=(h w.heap.size).out g w vals nx ⟨hE.1,Nat.le_refl _⟩ hz hA hb ha (fun r hr=>by rw [List.mem_singleton.1 hr];exact hr0) (fun i j r q hi hj hne=>by
   obtain ⟨h3,_⟩:=List.getElem?_eq_some_iff.1 hi;obtain ⟨h4,_⟩:=List.getElem?_eq_some_iff.1 hj;simp at h3 h4;omega)
  refine h1.mono fun en w' H=>?_
  obtain ⟨val,r,rows',g',he,hC,hh,hle,hZ,hlen,hver,hrn,hA',hs,hbk,ho,hE'⟩:=H;have hq:rowIn g' w' (zrow v zs):=by
   refine hq0.1.mono hle (fun c hc=>hbk c (hz c hc) fun q hq hk e=>?_) fun hk=>hbk _ (hb v hq0.1.1 hk) fun q hq hk2 e=>?_
   ·rw [List.mem_singleton.1 hq] at hk e
    exact (hr0.2 hk).1 (e ▸ hc)
   ·rw [List.mem_singleton.1 hq] at hk2 e
    exact hap 0 1 _ _ rfl rfl (by decide) hk2 hk e.symm
  have hold:∀ c ∈ zs.flatMap (·.2),c < w.heap.size:=fun c hc=>by
   obtain ⟨hqa,hq1⟩:=hq0.1;rcases hq1 with hq1 | ⟨arr,e1,e2,e3,e4⟩
   ·have:zs=[]:=by
     cases zs with
     | nil=>rfl
     | cons z l=>have:=hq1.2;simp [zsL_cons] at this
    subst this;cases hc
   ·exact hz c (TWl.z _ (twl_of e4) c hc)
  have fin:∀ (C:SV→List Row→Prop) (p2 it2:Nat) (lo2 bt2:Bool),rows'=[RR ver b p2 it2 lo2 bt2]→C r [RR ver b p2 it2 lo2 bt2,zrow v zs]→∃ (v_1:Value) (r:SV) (rows'_1:List Row) (g'_1:Cx),en=.returned v_1∧C r rows'_1∧holds g'_1 w' (ren 0 nx r) v_1∧g.le g'_1∧(∀ b,g'_1.Z b→g.Z b∨(w.heap.size≤b∧b < w'.heap.size))∧
   (rows'_1.length=[RR ver b p it lo bt,zrow v zs].length∨rows'_1.length=[RR ver b p it lo bt,zrow v zs].length + 1)∧(∀ (i:Nat) (r q:Row),[RR ver b p it lo bt,zrow v zs][i]?=some r→rows'_1[i]?=some q→q.ver=r.ver)∧(∀ q ∈ rnR nx ([RR ver b p it lo bt,zrow v zs].map (·.ver)) rows'_1,rowIn g'_1 w' q)∧(∀ u,g'_1.A u→g.A u∨(rows'_1.length=[RR ver b p it lo bt,zrow v zs].length + 1∧u=nx∧(g'_1.ka nx≠0→w.heap.size≤g'_1.mu nx∧g'_1.mu nx < w'.heap.size∧¬ g'_1.Z (g'_1.mu nx))))∧w.heap.size≤w'.heap.size∧(∀ c,c < w.heap.size→(∀ r ∈ [RR ver b p it lo bt,zrow v zs],g.ka r.ver≠0→c≠g.mu r.ver)→w'.heap[c]?=w.heap[c]?)∧(w'.os=w.os∧w'.tape=w.tape∧w'.output=w.output)∧(XL LB).E w':=by
   intro C p2 it2 lo2 bt2 e hC2;subst e;refine ⟨val,r,_,g',he,hC2,hh,hle,hZ,.inl rfl,fun i r q hi hj=>?_,fun q hq2=>?_,fun u hu=>?_,hs,fun c hc hne=>hbk c hc fun q hq2=>hne q (by rw [List.mem_singleton.1 hq2];simp),ho,hE'.1,Nat.le_trans hE.2 hs⟩
   ·match i,hi,hj with
    | 0,hi,hj=>simp at hi hj;subst hi;subst hj;rfl
    | 1,hi,hj=>simp at hi hj;subst hi;subst hj;rfl
    | i + 2,hi,hj=>simp at hi
   ·simp only [List.map_cons,List.map_nil,rnR,List.mem_cons,List.not_mem_nil,or_false] at hq2
    rcases hq2 with rfl | rfl
    ·exact hrn _ (by simp [rnR])
    ·exact hq
   ·rcases hA' u hu with h2 | ⟨h2,_⟩
    ·exact .inl h2
    ·simp at h2
  cases R with
  | error e=>
    obtain ⟨hr,p2,it2,lo2,bt2,e2⟩:=hC;exact fin _ p2 it2 lo2 bt2 e2 ⟨hr,_,_,_,_,rfl⟩
  | ok y=>
    obtain ⟨x,p2,it2,lo2,bt2⟩:=y;obtain ⟨⟨a,⟨S,hS1,hS2,rfl⟩,hr⟩,e2⟩:=hC;exact fin _ p2 it2 lo2 bt2 e2 ⟨⟨S,hS1,fun c hc=>Nat.le_trans hE.2 (hS2 c hc),fun c hc h2=>absurd (hold c h2) (by have:=hS2 c hc;omega),hr⟩,rfl⟩⟩
def RdE (LB ver:Nat) (b:List UInt8) (R:Except Nat (List It × Nat × Nat × Bool × Bool)) (r:SV) (rows:List Row):Prop:=match R with
 | .error e=>(∃ a,nlE a∧r=.tup [a,iv e])∧∃ p it lo bt,rows=[RR ver b p it lo bt]
 | .ok (l,p,it,lo,bt)=>∃ zs:List (It × List Nat),zs.map (·.1)=l∧(zs.flatMap (·.2)).Nodup∧(∀ c ∈ zs.flatMap (·.2),LB≤c)∧r=.tup [.own 2000 0 l.length 4,iv 0]∧rows=[RR ver b p it lo bt,⟨0,31,4,zsL zs⟩]
theorem AC.merge {f:FuncId} {args:List SV} {LB ver:Nat} {b:List UInt8} {p it:Nat} {lo bt:Bool} {R:Except Nat (List It × Nat × Nat × Bool × Bool)} (h:AC Tryd.prog (XL LB) f args [RR ver b p it lo bt] (RdE LB ver b R)):
 AC Tryd.prog (XL LB) f args [RR ver b p it lo bt] (RdN ver b nlE (isE LB) R):=
 ⟨fun g w vals nx hE hz hA hb ha hrow hap=>by
  refine (h.out g w vals nx hE hz hA hb ha hrow hap).mono fun en w' H=>?_
  obtain ⟨val,r,rows',g',he,hC,hh,hle,hZ,hlen,hver,hrn,hA',hs,hbk,ho,hE'⟩:=H;cases R with
  | error e=>exact ⟨val,r,rows',g',he,hC,hh,hle,hZ,hlen,hver,hrn,hA',hs,hbk,ho,hE'⟩
  | ok y=>
    obtain ⟨l,p2,it2,lo2,bt2⟩:=y;obtain ⟨zs,hzs,hnd,hge,rfl,rfl⟩:=hC;obtain ⟨vs,e,hh⟩:=hh
    match vs,hh with
    | [v1,v2],hh=>
      have hv1:holds g' w' (.own 0 nx l.length 4) v1:=hh.1;have hv2:v2=.int .i64 0:=hh.2.1;obtain ⟨hAn,⟨hn,hk⟩,hv1⟩:=hv1;have hr1:rowIn g' w' (RR ver b p2 it2 lo2 bt2):=hrn _ (by simp [rnR]);have hr2:rowIn g' w' ⟨nx,31,4,zsL zs⟩:=hrn _ (by simp [rnR]);have hnx:g'.ka nx≠0→w.heap.size≤g'.mu nx∧g'.mu nx < w'.heap.size∧¬ g'.Z (g'.mu nx):=fun hk=>by
       rcases hA' nx hAn with h | ⟨_,_,h⟩
       ·exact absurd (hA nx h) (Nat.lt_irrefl _)
       ·exact h hk
      have hgA:g.A ver:=(hrow (RR ver b p it lo bt) (by simp)).1.1;have hTW:l=[]∨(g'.ka nx≠0∧∃ arr:Array Value,w'.heap[g'.mu nx]?=some (.cells arr 31 (0,0))∧arr.size=g'.ka nx * 4∧TWl g'.Z w' l (arr.toList.take (l.length * 4)) (zs.flatMap (·.2))):=by
       obtain ⟨_,h3 | ⟨arr,e1,e2,e3,e4⟩⟩:=hr2
       ·left
        have h4:zs=[]:=by
         cases zs with
         | nil=>rfl
         | cons z l=>have:=h3.2;simp [zsL_cons] at this
        rw [← hzs,h4];rfl
       ·by_cases hl0:l=[]
        ·exact .inl hl0
        ·right
         have hll:zs.length=l.length:=by rw [← hzs,List.length_map]
         have h5:0 < l.length:=List.length_pos_iff.2 hl0;have e3':(zsL zs).length≤arr.size:=e3;rw [zsL_len,hll] at e3';have e4':agL g' w' (zsL zs) (arr.toList.take (zsL zs).length):=e4;rw [zsL_len,hll] at e4';have:=twl_of e4';rw [hzs] at this;exact ⟨by have e2':arr.size=g'.ka nx * 4:=e2;intro hk0;rw [hk0] at e2';omega,arr,e1,e2,this⟩
      have hg2:g.le ⟨fun c=>g'.Z c∨(g'.ka nx≠0∧c=g'.mu nx),g.A,g'.mu,g'.ka⟩:=⟨fun c hc=>.inl (hle.z c hc),fun u hu=>⟨hu,(hle.a u hu).2⟩⟩;refine ⟨val,_,[RR ver b p2 it2 lo2 bt2],⟨fun c=>g'.Z c∨(g'.ka nx≠0∧c=g'.mu nx),g.A,g'.mu,g'.ka⟩,he,⟨⟨.s (twk l (if l=[] then [] else g'.mu nx :: zs.flatMap (·.2))),⟨_,?_,?_,rfl⟩,rfl⟩,rfl⟩,?_,hg2,?_,.inl rfl,?_,?_,fun u hu=>.inl hu,hs,hbk,ho,hE'⟩
      ·split
       ·exact List.nodup_nil
       ·rename_i hl0
        obtain ⟨hk0,arr,e1,e2,e3⟩:=hTW.resolve_left hl0;exact List.nodup_cons.2 ⟨fun hc=>(hnx hk0).2.2 (TWl.z _ e3 _ hc),hnd⟩
      ·intro c hc
       split at hc
       ·cases hc
       ·rename_i hl0
        obtain ⟨hk0,_⟩:=hTW.resolve_left hl0;rcases List.mem_cons.1 hc with rfl | hc
        ·exact Nat.le_trans hE.2 (hnx hk0).1
        ·exact hge c hc
      ·refine ⟨[v1,v2],e,?_,hv2,trivial⟩
       have hTk:TWk (fun c=>g'.Z c∨(g'.ka nx≠0∧c=g'.mu nx)) w' l (if g'.ka nx=0 then none else some ⟨g'.mu nx,0,none⟩) (g'.ka nx) (if l=[] then [] else g'.mu nx :: zs.flatMap (·.2)):=by
        by_cases hl0:l=[]
        ·exact .inl ⟨hl0,if_pos hl0⟩
        ·obtain ⟨hk0,arr,e1,e2,e3⟩:=hTW.resolve_left hl0
         right
         exact ⟨_,arr,_,if_neg hk0,.inr ⟨hk0,rfl⟩,e1,e2,TWl.mono (fun c hc=>⟨.inl hc,fun e=>(hnx hk0).2.2 (e ▸ hc)⟩) (fun _ _=>rfl) _ _ _ e3,if_neg hl0⟩
       show ∃ a n c,v1=.slice a n c∧(n=l.length∧(n≤c∧c≤9223372036854775807)∧TWk _ w' l a c _)
       rcases hv1 with hv1 | ⟨hk0,hv1⟩
       ·by_cases hk0:g'.ka nx=0
        ·have hl0:l=[]:=List.length_eq_zero_iff.1 (by omega)
         exact ⟨_,_,_,hv1,rfl,⟨hn,hk⟩,.inl ⟨hl0,if_pos hl0⟩⟩
        ·rw [if_neg hk0] at hTk
         exact ⟨_,_,_,hv1,rfl,⟨hn,hk⟩,hTk⟩
       ·have hl0:l=[]:=List.length_eq_zero_iff.1 (by omega)
        exact ⟨_,_,_,hv1,by rw [hl0];rfl,⟨by omega,by omega⟩,.inl ⟨hl0,if_pos hl0⟩⟩
      ·rintro c (hc | ⟨hk0,rfl⟩)
       ·exact hZ c hc
       ·exact .inr ⟨(hnx hk0).1,(hnx hk0).2.1⟩
      ·intro i r q hi hj
       match i,hi,hj with
       | 0,hi,hj=>simp at hi hj;subst hi;subst hj;rfl
       | i + 1,hi,hj=>simp at hi
      ·intro q hq
       simp only [List.map_cons,List.map_nil,rnR,List.mem_cons,List.not_mem_nil,or_false] at hq;subst hq;exact rr_z hr1 (fun c hc=>.inl hc) hgA rfl rfl⟩
def ItZ (b:List UInt8) (g:Nat):Prop:=∀ (LB s ver lv p it:Nat) (lo bt:Bool),p≤b.length→it≤256→lv≤8→2 * (256 - it) + 1≤g→AC Tryd.prog (XL LB) 48 [.ptr s ver 0,iv lv] [RR ver b p it lo bt] (RdN ver b zI (isZ LB) (itR b (gi b g lv p it 8) lo bt))
def GZ (LB:Nat) (b:List UInt8) (acc:List Gt) (zs:List (It × List Nat)):Prop:=zs.map (·.1)=Gt.its b acc∧(zs.flatMap (·.2)).Nodup∧∀ c ∈ zs.flatMap (·.2),LB≤c
theorem GZ.nil (LB:Nat) (b:List UInt8):GZ LB b [] []:=⟨rfl,List.nodup_nil,fun _ h=>by cases h⟩
theorem GZ.len {LB:Nat} {b:List UInt8} {acc:List Gt} {zs:List (It × List Nat)} (h:GZ LB b acc zs):zs.length=acc.length:=by
 have:=congrArg List.length h.1;rwa [List.length_map,Gt.its_len] at this
theorem GZ.app {LB:Nat} {b:List UInt8} {acc:List Gt} {zs:List (It × List Nat)} {t:Gt} {S:List Nat} (h:GZ LB b acc zs) (h1:S.Nodup) (h2:∀ c ∈ S,LB≤c) (h3:∀ c ∈ S,c ∉ zs.flatMap (·.2)):GZ LB b (acc ++ [t]) (zs ++ [(t.it b,S)]):=by
 obtain ⟨a1,a2,a3⟩:=h;have e:(zs ++ [(t.it b,S)]).flatMap (·.2)=zs.flatMap (·.2) ++ S:=by simp
 refine ⟨by rw [List.map_append,a1,Gt.its_app];rfl,?_,?_⟩
 ·rw [e]
  exact List.nodup_append.2 ⟨a2,h1,fun x hx y hy e=>h3 y hy (e ▸ hx)⟩
 ·rw [e]
  intro c hc;rcases List.mem_append.1 hc with hc | hc
  ·exact a3 c hc
  ·exact h2 c hc
theorem RdE.err {LB ver:Nat} {b:List UInt8} {R:Except Nat (List It × Nat × Nat × Bool × Bool)} {e:Nat} {a:SV} {p it:Nat} {lo bt:Bool} (h:R=.error e) (hZ:nlE a):RdE LB ver b R (.tup [a,iv e]) [RR ver b p it lo bt]:=by
 rw [h];exact ⟨⟨a,hZ,rfl⟩,p,it,lo,bt,rfl⟩
theorem RdE.ok {LB ver:Nat} {b:List UInt8} {R:Except Nat (List It × Nat × Nat × Bool × Bool)} {acc:List Gt} {zs:List (It × List Nat)} {p it:Nat} {lo bt:Bool} (h:R=.ok (Gt.its b acc,p,it,lo,bt)) (hZ:GZ LB b acc zs):RdE LB ver b R (.tup [.own 2000 0 acc.length 4,iv 0]) [RR ver b p it lo bt,⟨0,31,4,zsL zs⟩]:=by
 rw [h];exact ⟨zs,hZ.1,hZ.2.1,hZ.2.2,by rw [Gt.its_len],rfl⟩
@[go_sem] theorem fs_v (x:Value) (l:List SV):List.findSome? oS1 (.v x :: l)=List.findSome? oS1 l:=rfl
@[go_sem] theorem fs_nil:List.findSome? oS1 []=none:=rfl
@[go_sem] theorem zsL_app2 (l:List (It × List Nat)) (x:It) (S:List Nat):zsL l ++ itz x S=zsL (l ++ [(x,S)]):=zsL_app l (x,S)
set_option maxHeartbeats 8000000 in
theorem elemz_c (LB s ver:Nat) (b:List UInt8) (g lv p it:Nat) (lo bt:Bool) (mj lw n z:Nat) (hb:b.length≤4096) (hp:p≤b.length) (hi:it≤256) (hlv:lv≤8) (hn:n < 18446744073709551616) (hm:mj=4∨mj=5∨mj=6) (hl:lw < 28∨lw=31) (hg:2 * (256 - it) + 2≤g) (ih:∀ k,k < g→ItZ b k) (op:Bool) (hop:op=decide (lw=31)) (cnt w:Nat) (hw:w=if mj=5 then 2 else 1) (hcnt:cnt=w * n) (h6:mj=6→n=1):AC Tryd.prog (XL LB) 79 [.ptr s ver 0,.agg [y8 mj,y8 lw,uv n,iv z],iv lv] [RR ver b p it lo bt] (RdE LB ver b (elR b op mj lo bt (gl b g lv p it (cO op cnt 0) 8))):=by
 have hQ:preG [] (gl b g lv p it (cO op cnt 0) 8)=gl b g lv p it (cO op cnt 0) 8:=preG_nil _;generalize hq:gl b g lv p it (cO op cnt 0) 8=Q at hQ;have hQ:preG [] (gl b g lv p it (cO op cnt 0) 8)=Q:=by rw [hq];exact hQ
 have HQ:=dh hQ;have HW:=dh (And.intro hw hcnt);have HOP:=dh hop;clear hop;have hw1:1≤w∧w≤2∧(w=2→mj=5)∧(w=1→mj≠5):=by rw [hw];split <;> omega
 clear hQ hq hw hcnt;refine AC.bodyW true Tryd.func79 rfl Tryd.call79 Tryd.ntmps79 (by simp) fun e nx=>?_
 go_simp
 refine sqc ?_;go_simp;refine sqc ?_;go_simp;refine sqc ?_;go_simp;rw [show decide ((lw:Int)=31)=op by rw [HOP.out];exact decide_eq_decide.2 (by omega)];refine sqc ?_;go_simp;have hcn:op=false→cnt=w * n:=fun _=>HW.out.2
 refine lp (α:=Nat × Nat × Nat × Nat × List Gt × Nat × Nat × List (It × List Nat)) (fun x=>x.2.2.1≤b.length∧x.2.2.2.1≤256∧(2 * (256 - x.2.2.2.1) + 2≤x.2.1∧x.2.1≤g)∧x.2.2.2.2.1.length≤x.2.2.2.1∧x.2.2.2.2.1.length=w * x.2.2.2.2.2.2.1∧(op=false→x.2.2.2.2.2.2.1≤n)∧Hid (preG x.2.2.2.2.1 (gl b x.2.1 lv x.2.2.1 x.2.2.2.1 (cO op cnt x.2.2.2.2.1.length) 8)=Q)∧GZ LB b x.2.2.2.2.1 x.2.2.2.2.2.2.2) (fun x=>⟨[(0,.ptr 1000 ver 0),(2,iv lv),(4,.ptr 4 nx 0),(8,.own 900 x.2.2.2.2.2.1 x.2.2.2.2.1.length 4),(9,bov op),(10,uv x.2.2.2.2.2.2.1)],[(1000,RR ver b x.2.2.1 x.2.2.2.1 (lo || Gt.looses x.2.2.2.2.1) (bt || Gt.bads b x.2.2.2.2.1)),(4,⟨nx,125,4,[y8 mj,y8 lw,uv n,iv z]⟩),(900,⟨x.2.2.2.2.2.1,31,4,zsL x.2.2.2.2.2.2.2⟩)],x.1,[],66⟩) (fun x=>b.length - x.2.2.1) [(8,900,31,4)] [] (nx + 2,g,p,it,[],nx + 1,0,[]) ?_ ?_
 ·go_simp
  simp [Gt.looses,Gt.bads];exact GZ.nil _ _
 ·rintro ⟨u,g',p',it',acc,v,i,zs⟩ ⟨hp',hi',hg',hs',ha',hin',HQ',HZ⟩
  replace hp':p'≤b.length:=hp'
  replace hi':it'≤256:=hi'
  replace hg':2 * (256 - it') + 2≤g'∧g'≤g:=hg'
  replace hs':acc.length≤it':=hs'
  replace ha':acc.length=w * i:=ha'
  replace hin':op=false→i≤n:=hin'
  replace HQ':Hid (preG acc (gl b g' lv p' it' (cO op cnt acc.length) 8)=Q):=HQ'
  have HA:=dh ha';have hi256:i≤256:=by have:=Nat.le_mul_of_pos_left i (show 0 < w by omega);omega
  clear ha'
  dsimp only
  refine ct (α:=Unit) (fun _=>op=false→i < n) (fun _=>⟨[(0,.ptr 1000 ver 0),(2,iv lv),(4,.ptr 4 nx 0),(8,.own 900 v acc.length 4),(9,bov op),(10,uv i)],[(1000,RR ver b p' it' (lo || Gt.looses acc) (bt || Gt.bads b acc)),(4,⟨nx,125,4,[y8 mj,y8 lw,uv n,iv z]⟩),(900,⟨v,31,4,zsL zs⟩)],u,[],66⟩) [] (gw ?_) ?_
  ·go_simp
   cases op with
   | true=>go_simp
   | false=>
     go_simp
     refine ifd (fun h=>?_) (fun h=>?_) <;> go_simp
     ·refine gw ?_;go_simp
      obtain rfl:i=n:=by have:=hin' rfl;omega
      have hR:elR b false mj lo bt Q=.ok (Gt.its b acc,p',it',lo || Gt.looses acc,bt || Gt.bads b acc):=by
       obtain ⟨k,rfl⟩:∃ k,g'=k + 1:=⟨g' - 1,by omega⟩;rw [← HQ'.out,HA.out,hcn rfl,show cO false (w * i) (w * i)=some 0 by simp [cO],gl_zero];simp [preG,elR]
      have HR:=dh hR;clear hR;exact RdE.ok HR.out HZ
  ·rintro - hin
   replace hin:op=false→i < n:=hin
   refine sqA (blk ?_);refine ct (α:=Unit) (fun _=>op=true→brk b p'=false) (fun _=>⟨[(0,.ptr 1000 ver 0),(2,iv lv),(4,.ptr 4 nx 0),(8,.own 900 v acc.length 4),(9,bov op),(10,uv i)],[(1000,RR ver b p' it' (lo || Gt.looses acc) (bt || Gt.bads b acc)),(4,⟨nx,125,4,[y8 mj,y8 lw,uv n,iv z]⟩),(900,⟨v,31,4,zsL zs⟩)],u,[],66⟩) [] (gw ?_) ?_
   ·go_simp
    cases op with
    | false=>go_simp
    | true=>
      go_simp
      refine cl [] [1000] (stop_c (XL LB) 1000 ver b p' it' (lo || Gt.looses acc) (bt || Gt.bads b acc) hb hp') (by go_simp) ?_;rintro r rows ⟨rfl,rfl⟩;go_simp
      have hend:brk b p'=true→Hid (elR b true mj lo bt Q=.ok (Gt.its b acc,p' + 1,it',lo || Gt.looses acc,bt || Gt.bads b acc)):=fun h=>dh (by
       obtain ⟨k,rfl⟩:∃ k,g'=k + 1:=⟨g' - 1,by omega⟩;rw [← HQ'.out,show cO true cnt acc.length=none by simp [cO],gl_brk h];have ho:¬ (mj=5∧acc.length % 2=1):=fun ⟨h5,h2⟩=>by
        have hA:=HA.out;obtain rfl:w=2:=by omega
        omega
       simp [preG,elR,ho])
      refine ifk (fun h=>?_) (fun h=>?_)
      ·rw [if_pos h]
       have HE:=hend h;clear hend;go_simp
       exact RdE.ok HE.out HZ
      ·rw [if_neg (by rw [h];simp)]
       clear hend;go_simp
   ·rintro - hbk
    replace hbk:op=true→brk b p'=false:=hbk
    refine sqc ?_;go_simp;refine blk ?_;refine lp (α:=Nat × Nat × Nat × Nat × List Gt × Nat × Nat × List (It × List Nat)) (fun x=>x.2.2.1≤b.length∧x.2.2.2.1≤256∧(2 * (256 - x.2.2.2.1) + 2≤x.2.1∧x.2.1≤g)∧x.2.2.2.2.1.length≤x.2.2.2.1∧Hid (x.2.2.2.2.1.length=w * i + x.2.2.2.2.2.2.1)∧x.2.2.2.2.2.2.1≤w∧p'≤x.2.2.1∧(0 < x.2.2.2.2.2.2.1→p' < x.2.2.1)∧(x.2.2.2.2.2.2.1=0→op=true→brk b x.2.2.1=false)∧Hid (preG x.2.2.2.2.1 (gl b x.2.1 lv x.2.2.1 x.2.2.2.1 (cO op cnt x.2.2.2.2.1.length) 8)=Q)∧GZ LB b x.2.2.2.2.1 x.2.2.2.2.2.2.2) (fun x=>⟨[(0,.ptr 1000 ver 0),(2,iv lv),(4,.ptr 4 nx 0),(8,.own 900 x.2.2.2.2.2.1 x.2.2.2.2.1.length 4),(9,bov op),(10,uv i),(11,iv x.2.2.2.2.2.2.1)],[(1000,RR ver b x.2.2.1 x.2.2.2.1 (lo || Gt.looses x.2.2.2.2.1) (bt || Gt.bads b x.2.2.2.2.1)),(4,⟨nx,125,4,[y8 mj,y8 lw,uv n,iv z]⟩),(900,⟨x.2.2.2.2.2.1,31,4,zsL x.2.2.2.2.2.2.2⟩)],x.1,[],66⟩) (fun x=>2 - x.2.2.2.2.2.2.1) [] [] (u,g',p',it',acc,v,0,zs) ?_ ?_
    ·go_simp
     exact hbk
    ·rintro ⟨u1,g1,p1,it1,acc1,v1,k,zs1⟩ ⟨hp1,hi1,hg1,hs1,HA1,hk1,hpp,hpk,hbk1,HQ1,HZ1⟩
     replace hp1:p1≤b.length:=hp1
     replace hi1:it1≤256:=hi1
     replace hg1:2 * (256 - it1) + 2≤g1∧g1≤g:=hg1
     replace hs1:acc1.length≤it1:=hs1
     replace HA1:Hid (acc1.length=w * i + k):=HA1
     replace hk1:k≤w:=hk1
     replace hpp:p'≤p1:=hpp
     replace hpk:0 < k→p' < p1:=hpk
     replace hbk1:k=0→op=true→brk b p1=false:=hbk1
     replace HQ1:Hid (preG acc1 (gl b g1 lv p1 it1 (cO op cnt acc1.length) 8)=Q):=HQ1
     dsimp only
     have hout:k=w→Hid (acc1.length=w * (i + 1)):=fun h=>dh (by rw [HA1.out,h,Nat.mul_succ])
     refine ct (α:=Unit) (fun _=>k < 2) (fun _=>⟨[(0,.ptr 1000 ver 0),(2,iv lv),(4,.ptr 4 nx 0),(8,.own 900 v1 acc1.length 4),(9,bov op),(10,uv i),(11,iv k)],[(1000,RR ver b p1 it1 (lo || Gt.looses acc1) (bt || Gt.bads b acc1)),(4,⟨nx,125,4,[y8 mj,y8 lw,uv n,iv z]⟩),(900,⟨v1,31,4,zsL zs1⟩)],u1,[],66⟩) [] (gw ?_) ?_
     ·go_simp
      refine ifd (fun h=>?_) (fun h=>?_) <;> go_simp
      ·omega
      ·obtain rfl:k=2:=by omega
       have HO:=hout (by omega);have hpk:=hpk (by omega);clear hout;refine gw ?_;go_simp;go_bits;exact ⟨u1,g1,p1,it1,acc1,v1,i + 1,zs1,⟨hp1,hi1,hg1,hs1,HO.out,fun h=>hin h,HQ1,HZ1⟩,by omega,Nat.le_refl _,⟨⟨rfl,rfl⟩,by omega⟩,⟨rfl,rfl,rfl,rfl⟩,rfl,rfl⟩
     ·rintro - hk2
      replace hk2:k < 2:=hk2
      refine sqA (blk ?_);refine ct (α:=Unit) (fun _=>k < w) (fun _=>⟨[(0,.ptr 1000 ver 0),(2,iv lv),(4,.ptr 4 nx 0),(8,.own 900 v1 acc1.length 4),(9,bov op),(10,uv i),(11,iv k)],[(1000,RR ver b p1 it1 (lo || Gt.looses acc1) (bt || Gt.bads b acc1)),(4,⟨nx,125,4,[y8 mj,y8 lw,uv n,iv z]⟩),(900,⟨v1,31,4,zsL zs1⟩)],u1,[],66⟩) [] (gw ?_) ?_
      ·go_simp
       refine gdd (fun h=>?_) (fun h=>?_) <;> go_simp
       ·obtain rfl:k=1:=by omega
        refine ifn (fun h5=>?_) (fun h5=>?_) <;> go_simp
        ·have HO:=hout (by omega)
         have hpk:=hpk (by omega);clear hout;refine gw ?_;go_simp;go_bits;exact ⟨u1,g1,p1,it1,acc1,v1,i + 1,zs1,⟨hp1,hi1,hg1,hs1,HO.out,fun h=>hin h,HQ1,HZ1⟩,by omega,Nat.le_refl _,⟨⟨rfl,rfl⟩,by omega⟩,⟨rfl,rfl,rfl,rfl⟩,rfl,rfl⟩
        ·omega
       ·omega
      ·rintro - hkw
       replace hkw:k < w:=hkw
       clear hout;refine ct (α:=Unit) (fun _=>op=true→brk b p1=false) (fun _=>⟨[(0,.ptr 1000 ver 0),(2,iv lv),(4,.ptr 4 nx 0),(8,.own 900 v1 acc1.length 4),(9,bov op),(10,uv i),(11,iv k)],[(1000,RR ver b p1 it1 (lo || Gt.looses acc1) (bt || Gt.bads b acc1)),(4,⟨nx,125,4,[y8 mj,y8 lw,uv n,iv z]⟩),(900,⟨v1,31,4,zsL zs1⟩)],u1,[],66⟩) [] (gw ?_) ?_
       ·go_simp
        refine gdd (fun h=>?_) (fun h=>?_)
        ·obtain rfl:k=1:=by omega
         cases op with
         | false=>go_simp
         | true=>
           have hend:brk b p1=true→Hid (elR b true mj lo bt Q=.error 4):=fun h=>dh (by
            obtain ⟨k,rfl⟩:∃ k,g1=k + 1:=⟨g1 - 1,by omega⟩;rw [← HQ1.out,show cO true cnt acc1.length=none by simp [cO],gl_brk h];obtain rfl:w=2:=by omega
            have hA:=HA1.out;have ho:mj=5∧acc1.length % 2=1:=⟨by omega,by omega⟩;simp [preG,elR,ho])
           go_simp
           refine cl [] [1000] (stop_c (XL LB) 1000 ver b p1 it1 (lo || Gt.looses acc1) (bt || Gt.bads b acc1) hb hp1) (by go_simp) ?_;rintro r rows ⟨rfl,rfl⟩;go_simp
           refine ifk (fun h=>?_) (fun h=>?_)
           ·rw [if_pos h]
            have HE:=hend h;clear hend;go_simp
            exact RdE.err HE.out rfl
           ·rw [if_neg (by rw [h];simp)]
            clear hend;go_simp
        ·have h0:k=0:=by omega
         have hb0:=hbk1 h0;go_simp
         exact hb0
       ·rintro - hbk2
        replace hbk2:op=true→brk b p1=false:=hbk2
        obtain ⟨g1,rfl⟩:∃ k,g1=k + 1:=⟨g1 - 1,by omega⟩;have hc0:cO op cnt acc1.length≠some 0:=by
         have hA:=HA1.out;cases op with
         | true=>simp [cO]
         | false=>
           have h1:=hcn rfl;have h2:=hin rfl;have h3:w * i + w≤w * n:=by rw [← Nat.mul_succ];exact Nat.mul_le_mul_left w h2
           simp only [cO];intro h;have h:cnt - acc1.length=0:=by simpa using h
           omega
        have hst:=gl_step (b:=b) (g:=g1) (lv:=lv) (p:=p1) (it:=it1) (ck:=8) hc0 (fun h=>hbk2 (by cases op with | true=>rfl | false=>simp [cO] at h))
        have hcm:(cO op cnt acc1.length).map (· - 1)=cO op cnt (acc1.length + 1):=by cases op <;> simp [cO,Nat.sub_sub]
        rw [hcm] at hst;have HQ2:=HQ1.out;rw [hst] at HQ2;clear hst hcm hc0 HQ1;have HQ1:=dh HQ2;clear HQ2;refine sqc ?_;go_simp;have hcl:=AC.lend (LB:=LB) (v:=v1) (zs:=zs1) fun LB=>ih g1 (by omega) LB 1000 ver lv p1 it1 (lo || Gt.looses acc1) (bt || Gt.bads b acc1) hp1 hi1 hlv (by omega)
        refine cl (C:=RdL LB ver v1 b zs1 (itR b (gi b g1 lv p1 it1 8) (lo || Gt.looses acc1) (bt || Gt.bads b acc1))) [] [1000,900] (by simp [arg,lnt,lnR,cv,frzH,go_sem];exact hcl) (by go_simp) ?_;rintro r rows hR;cases hgi:gi b g1 lv p1 it1 8 with
        | error e'=>
          rw [hgi] at hR;have HE:=dh (show elR b op mj lo bt Q=.error e' by rw [← HQ1.out,hgi];rfl);have hne:=gi_err hgi;obtain ⟨⟨a,⟨kz,rfl⟩,rfl⟩,p2,it2,lo2,bt2,rfl⟩:=hR;clear hgi;go_simp
          refine gw ?_;go_simp;exact RdE.err HE.out rfl
        | ok y=>
          obtain ⟨t,q,j⟩:=y;rw [hgi] at hR;obtain ⟨hb1,hb2,hb3,hb4⟩:=gi_bd hgi hi1 hp1;have HQ2:=HQ1.out;rw [hgi] at HQ2;simp only at HQ2;rw [preG_pre] at HQ2;have HQ3:=dh HQ2;clear HQ2 HQ1 hgi;obtain ⟨⟨S,hS1,hS2,hS3,rfl⟩,rfl⟩:=hR;go_simp
          refine gw ?_;go_simp;refine ⟨⟨by rw [HZ1.len],by rw [show Tryd.t31.bytes=64 from rfl];omega,by omega⟩,?_⟩;refine gw ?_;go_simp;go_bits;have hA1:=HA1.out;refine ⟨u1 + 1 + 1 + 1 + 1,g1,q,j,acc1 ++ [t],u1 + 1 + 1 + 1,k + 1,zs1 ++ [(t.it b,S)],⟨hb4,hb2,by omega,by rw [List.length_append];simp;omega,dh (by rw [List.length_append,hA1];simp;omega),by omega,by omega,(fun _=>by omega),(fun h=>by omega),?_,HZ1.app hS1 hS2 hS3⟩,by omega,Nat.le_refl _,?_⟩
          ·rw [List.length_append];exact HQ3
          ·rw [List.length_append,Gt.looses_app,Gt.bads_app,Gt.looses1,Gt.bads1]
           refine ⟨⟨⟨rfl,rfl⟩,by omega⟩,⟨rfl,rfl,(Bool.or_assoc ..),(Bool.or_assoc ..)⟩,rfl,rfl⟩
def itzN (LB:Nat) (x:It) (a:SV):Prop:=∃ B K S,S.Nodup∧(∀ c ∈ S,LB≤c)∧a=.agg [iv x.kind,uv x.num,B,K]∧slN x.bytes.length 1 (bys x.bytes) B∧(K=.s (twk x.kids S)∨(x.kids=[]∧S=[]∧slN x.kids.length 4 (itL x.kids) K))
theorem itzN.flat (LB:Nat) (k:Int) (n:Nat):itzN LB (.mk k n [] []) (.agg [iv k,uv n,.v (.slice none 0 0),.v (.slice none 0 0)]):=⟨_,_,[],List.nodup_nil,fun _ h=>(by cases h),rfl,.inr ⟨rfl,rfl,rfl⟩,.inr ⟨rfl,rfl,.inr ⟨rfl,rfl,rfl⟩⟩⟩
theorem itzN.leaf {LB:Nat} {x:It} (h:x.kids=[]):itzN LB x (.agg [iv x.kind,uv x.num,bsl x.bytes,isl x.kids]):=⟨_,_,[],List.nodup_nil,fun _ h=>(by cases h),rfl,.inl rfl,.inr ⟨h,rfl,.inl rfl⟩⟩
theorem itzN.leaf2 {LB:Nat} {x:It} (h:x.kids=[]):itzN LB x (.agg [iv x.kind,uv x.num,bsl x.bytes,.sl 0 4 []]):=⟨_,_,[],List.nodup_nil,fun _ h=>(by cases h),rfl,.inl rfl,.inr ⟨h,rfl,by rw [h];exact .inl rfl⟩⟩
theorem itzN.kids {LB:Nat} {k:Int} {n:Nat} {l:List It} {S:List Nat} (h1:S.Nodup) (h2:∀ c ∈ S,LB≤c):itzN LB (.mk k n [] l) (.agg [iv k,uv n,.v (.slice none 0 0),.s (twk l S)]):=⟨_,_,S,h1,h2,rfl,.inr ⟨rfl,rfl,rfl⟩,.inl rfl⟩
theorem txR_kids {b:List UInt8} {g lv p it mj lw n:Nat} {lo bt:Bool} {x:It} {y:Nat × Nat × Bool × Bool} (h:txR b g lv p it mj lw n lo bt=.ok (x,y)):x.kids=[]:=by
 unfold txR at h
 split at h
 ·split at h
  ·cases h
  ·cases h;rfl
 ·split at h
  ·cases h;rfl
  ·cases h
theorem sevX_kids (lw n:Nat):(sevX lw n).kids=[]:=by unfold sevX;split <;> rfl
theorem AC.wkz {X:Ev} {f:FuncId} {args:List SV} {rows:List Row} {LB ver:Nat} {b:List UInt8} {R:Except Nat (It × Nat × Nat × Bool × Bool)} (h:AC Tryd.prog X f args rows (RdN ver b zI (itzN LB) R)):AC Tryd.prog X f args rows (RdN ver b zI (isZ LB) R):=by
 refine h.weak fun r rows hr=>?_
 cases R with
 | error e=>exact ⟨r,hr,fun _ _ _ _ h=>h⟩
 | ok x=>
   obtain ⟨x,p,it,lo,bt⟩:=x;obtain ⟨⟨a,⟨B,K,S,hS1,hS2,rfl,hB,hK⟩,rfl⟩,hrow⟩:=hr;refine ⟨_,⟨⟨.agg (itz x S),⟨S,hS1,hS2,rfl⟩,rfl⟩,hrow⟩,fun g w v nx hv=>?_⟩;obtain ⟨vs,e,hv⟩:=hv
   match vs,hv with
   | [v1,v2],hv=>
     refine ⟨_,e,?_,hv.2.1,trivial⟩;obtain ⟨us,e2,hu⟩:=hv.1
     match us,hu with
     | [u1,u2,u3,u4],hu=>
       refine ⟨_,e2,hu.1,hu.2.1,hB.holds hu.2.2.1,?_,trivial⟩;rcases hK with rfl | ⟨hk,rfl,hK⟩
       ·exact hu.2.2.2.1
       ·have h4:=hK.holds hu.2.2.2.1
        rw [hk] at h4;obtain ⟨a2,c2,rfl,hc2,_,_⟩:=h4;exact ⟨a2,_,c2,rfl,by rw [hk],hc2,by rw [hk];exact .inl ⟨rfl,rfl⟩⟩
set_option maxHeartbeats 8000000 in
theorem itemz_c (b:List UInt8) (hb:b.length≤4096) (hsev:SevK b) (g:Nat):ItZ b g:=by
 induction g using Nat.strongRecOn with
 | _ g ih=>
   intro LB s ver lv p it lo bt hp hi hlv hg;obtain ⟨g,rfl⟩:∃ k,g=k + 1:=⟨g - 1,by omega⟩;obtain ⟨R,hR⟩:∃ R,R=itR b (gi b (g + 1) lv p it 8) lo bt:=⟨_,rfl⟩;rw [← hR];rw [gi] at hR;have HR:=dh hR;clear hR;refine AC.wkz ?_;refine AC.bodyW false Tryd.func48 rfl Tryd.call48 Tryd.ntmps48 (by simp) fun e nx=>?_
   go_simp
   refine sqc ?_;go_simp;refine sqc ?_;go_simp;refine cl [] [1000] (hd_c (X:=XL LB) 1000 ver b p it 8 lo bt hb hp hi (by omega)) (by go_simp) ?_;rintro r rows hH;unfold HdC at hH;cases hh:hdP b p it 8 with
   | error e'=>
     rw [hh] at hH;have hne:=hdP_err hh;obtain ⟨rfl,p2,it2,lo2,rfl⟩:=hH;have HE:=dh (show R=.error e' by rw [HR.out,hh];rfl);clear hh;go_simp
     refine gw ?_;go_simp;exact RdN.err HE.out ⟨_,rfl⟩
   | ok x=>
     obtain ⟨mj,lw,n,z,q⟩:=x;obtain ⟨_,_,hmj,hlw,hn,hq1,hq2,hlw2,_,h31,hz,h310,_⟩:=hdP_ok hh;have hq2:=hq2 (by omega);rw [hh] at hH;obtain ⟨rfl,rfl⟩:=hH;have HR2:=dh (HR.out.trans (by rw [hh]));have HZ:=dh hz;have hnum:=hdP_num hh;clear hh HR hz;go_simp
     refine sqc ?_;go_simp;refine sqc ?_;go_simp;go_bits;refine sqc ?_;go_simp;rcases (show mj=0∨mj=1∨mj=2∨mj=3∨mj=7∨mj=4∨mj=5∨mj=6 by omega) with rfl | rfl | rfl | rfl | rfl | rfl | rfl | rfl
     ·have HE:=dh (show R=.ok (.mk (0:Nat) n [] [],q,it + 1,lo || decide (lw=31) || !decide (z=shortP n),bt) by rw [HR2.out,HZ.out];exact it_leaf (by omega) (by omega))
      clear HR2;go_simp
      exact RdN.ok HE.out (itzN.flat _ _ _)
     ·have HE:=dh (show R=.ok (.mk (1:Nat) n [] [],q,it + 1,lo || decide (lw=31) || !decide (z=shortP n),bt) by rw [HR2.out,HZ.out];exact it_leaf (by omega) (by omega))
      clear HR2;go_simp
      exact RdN.ok HE.out (itzN.flat _ _ _)
     ·have HE:=dh (show R=txR b g lv q (it + 1) 2 lw n (lo || decide (lw=31) || !decide (z=shortP n)) bt by rw [HR2.out,HZ.out];exact it_str (by omega))
      clear HR2;go_simp
      refine cl [] [1000] (AC.up LB (text_c 1000 ver b g lv q (it + 1) (lo || decide (lw=31) || !decide (z=shortP n)) bt 2 lw n z hb hq2 (by omega) hn (by omega) hlw2 (by omega))) (by go_simp) ?_;rintro r rows hT;cases ht:txR b g lv q (it + 1) 2 lw n (lo || decide (lw=31) || !decide (z=shortP n)) bt with
      | error e'=>
        rw [ht] at hT;have HE:=dh (HE.out.trans ht);clear ht;obtain ⟨⟨a,⟨kz,rfl⟩,rfl⟩,p2,it2,lo2,bt2,rfl⟩:=hT;go_simp
        exact RdN.err HE.out ⟨_,rfl⟩
      | ok y=>
        obtain ⟨x,p2,it2,lo2,bt2⟩:=y;have hkz:=txR_kids ht;rw [ht] at hT;have HE:=dh (HE.out.trans ht);clear ht;obtain ⟨⟨a,rfl,rfl⟩,rfl⟩:=hT;go_simp
        exact RdN.ok HE.out (itzN.leaf2 hkz)
     ·have HE:=dh (show R=txR b g lv q (it + 1) 3 lw n (lo || decide (lw=31) || !decide (z=shortP n)) bt by rw [HR2.out,HZ.out];exact it_str (by omega))
      clear HR2;go_simp
      refine cl [] [1000] (AC.up LB (text_c 1000 ver b g lv q (it + 1) (lo || decide (lw=31) || !decide (z=shortP n)) bt 3 lw n z hb hq2 (by omega) hn (by omega) hlw2 (by omega))) (by go_simp) ?_;rintro r rows hT;cases ht:txR b g lv q (it + 1) 3 lw n (lo || decide (lw=31) || !decide (z=shortP n)) bt with
      | error e'=>
        rw [ht] at hT;have HE:=dh (HE.out.trans ht);clear ht;obtain ⟨⟨a,⟨kz,rfl⟩,rfl⟩,p2,it2,lo2,bt2,rfl⟩:=hT;go_simp
        exact RdN.err HE.out ⟨_,rfl⟩
      | ok y=>
        obtain ⟨x,p2,it2,lo2,bt2⟩:=y;have hkz:=txR_kids ht;rw [ht] at hT;have HE:=dh (HE.out.trans ht);clear ht;obtain ⟨⟨a,rfl,rfl⟩,rfl⟩:=hT;go_simp
        exact RdN.ok HE.out (itzN.leaf2 hkz)
     ·have HE:=dh (show R=.ok (sevX lw n,q,it + 1,lo || decide (lw=31) || loose7 lw n,bt) by rw [HR2.out];exact it_sev (by omega))
      have hz2:z=zsP lw:=HZ.out;subst hz2;clear HR2 HZ;go_simp
      refine cl [] [1000] (AC.up LB (hsev 1000 ver q (it + 1) (lo || decide (lw=31)) bt lw n (by omega) hn (fun h=>hnum (by omega) (by omega)))) (by go_simp) ?_;rintro r rows ⟨rfl,rfl⟩;go_simp
      exact RdN.ok HE.out (itzN.leaf (sevX_kids lw n))
     ·go_simp
      refine sqc ?_;go_simp;refine ifd (fun h=>?_) (fun h=>?_) <;> go_simp
      ·have HE:=dh (show R=.error 8 by rw [HR2.out];simp only [if_pos (show 8≤lv by omega)];rfl)
       clear HR2;go_simp
       exact RdN.err HE.out ⟨_,rfl⟩
      ·have hcc:(if lw=31 then none else some (cntP 4 n))=cO (decide (lw=31)) (n) 0:=by unfold cO cntP;by_cases h:lw=31 <;> simp [h]
       have HE:=dh (show R=match elR b (decide (lw=31)) 4 (lo || decide (lw=31) || !decide (zsP lw=shortP n)) bt (gl b g (lv + 1) q (it + 1) (if lw=31 then none else some (cntP 4 n)) 8) with | .error e=>.error e | .ok (l,r,j,lo',bt')=>.ok (.mk (4:Nat) 0 [] l,r,j,lo',bt') by rw [HR2.out];simp only [if_neg (show ¬ 8≤lv by omega)];exact it_els (mj:=4) (by omega) hlw2)
       rw [hcc,show zsP lw=z from HZ.out.symm] at HE;clear hcc HR2;refine sqc ?_;go_simp;refine sqc ?_;go_simp;refine gw ?_;go_simp;go_bits;refine cl [] [1000] (AC.merge (elemz_c LB 1000 ver b g (lv + 1) q (it + 1) (lo || decide (lw=31) || !decide (z=shortP n)) bt 4 lw n z hb hq2 (by omega) (by omega) (by omega) (by omega) hlw2 (by omega) (fun k hk=>ih k (by omega)) (decide (lw=31)) rfl (n) 1 rfl (by omega) (by omega))) (by go_simp) ?_;rintro r rows hT;cases ht:elR b (decide (lw=31)) 4 (lo || decide (lw=31) || !decide (z=shortP n)) bt (gl b g (lv + 1) q (it + 1) (cO (decide (lw=31)) (n) 0) 8) with
       | error e'=>
         rw [ht] at hT;have HE:=dh (HE.out.trans (by rw [ht]));have hne:=elR_err ht;clear ht;obtain ⟨⟨a,rfl,rfl⟩,p2,it2,lo2,bt2,rfl⟩:=hT;go_simp
         exact RdN.err HE.out ⟨_,rfl⟩
       | ok y=>
         obtain ⟨l,p2,it2,lo2,bt2⟩:=y;rw [ht] at hT;have HE:=dh (HE.out.trans (by rw [ht]));clear ht;obtain ⟨⟨a,⟨S,hS1,hS2,rfl⟩,rfl⟩,rfl⟩:=hT;go_simp
         exact RdN.ok (x:=.mk (4:Nat) 0 [] l) HE.out (itzN.kids hS1 hS2)
     ·go_simp
      refine sqc ?_;go_simp;refine ifd (fun h=>?_) (fun h=>?_) <;> go_simp
      ·have HE:=dh (show R=.error 8 by rw [HR2.out];simp only [if_pos (show 8≤lv by omega)];rfl)
       clear HR2;go_simp
       exact RdN.err HE.out ⟨_,rfl⟩
      ·have hcc:(if lw=31 then none else some (cntP 5 n))=cO (decide (lw=31)) (2 * n) 0:=by unfold cO cntP;by_cases h:lw=31 <;> simp [h]
       have HE:=dh (show R=match elR b (decide (lw=31)) 5 (lo || decide (lw=31) || !decide (zsP lw=shortP n)) bt (gl b g (lv + 1) q (it + 1) (if lw=31 then none else some (cntP 5 n)) 8) with | .error e=>.error e | .ok (l,r,j,lo',bt')=>.ok (.mk (5:Nat) 0 [] l,r,j,lo',bt') by rw [HR2.out];dsimp only;rw [if_neg (by decide),if_neg (by decide),if_neg (show ¬ 8≤lv by omega)];exact it_els (mj:=5) (by omega) hlw2)
       rw [hcc,show zsP lw=z from HZ.out.symm] at HE;clear hcc HR2;refine sqc ?_;go_simp;refine sqc ?_;go_simp;refine gw ?_;go_simp;go_bits;refine cl [] [1000] (AC.merge (elemz_c LB 1000 ver b g (lv + 1) q (it + 1) (lo || decide (lw=31) || !decide (z=shortP n)) bt 5 lw n z hb hq2 (by omega) (by omega) (by omega) (by omega) hlw2 (by omega) (fun k hk=>ih k (by omega)) (decide (lw=31)) rfl (2 * n) 2 rfl (by omega) (by omega))) (by go_simp) ?_;rintro r rows hT;cases ht:elR b (decide (lw=31)) 5 (lo || decide (lw=31) || !decide (z=shortP n)) bt (gl b g (lv + 1) q (it + 1) (cO (decide (lw=31)) (2 * n) 0) 8) with
       | error e'=>
         rw [ht] at hT;have HE:=dh (HE.out.trans (by rw [ht]));have hne:=elR_err ht;clear ht;obtain ⟨⟨a,rfl,rfl⟩,p2,it2,lo2,bt2,rfl⟩:=hT;go_simp
         exact RdN.err HE.out ⟨_,rfl⟩
       | ok y=>
         obtain ⟨l,p2,it2,lo2,bt2⟩:=y;rw [ht] at hT;have HE:=dh (HE.out.trans (by rw [ht]));clear ht;obtain ⟨⟨a,⟨S,hS1,hS2,rfl⟩,rfl⟩,rfl⟩:=hT;go_simp
         exact RdN.ok (x:=.mk (5:Nat) 0 [] l) HE.out (itzN.kids hS1 hS2)
     ·go_simp
      refine sqc ?_;go_simp;refine ifd (fun h=>?_) (fun h=>?_) <;> go_simp
      ·have HE:=dh (show R=.error 8 by rw [HR2.out];simp only [if_pos (show 8≤lv by omega)];rfl)
       clear HR2;go_simp
       exact RdN.err HE.out ⟨_,rfl⟩
      ·have hcc:(if lw=31 then none else some (cntP 6 n))=cO (decide (lw=31)) (1) 0:=by unfold cO cntP;by_cases h:lw=31 <;> simp [h]
       have HE:=dh (show R=match elR b (decide (lw=31)) 6 (lo || decide (lw=31) || !decide (zsP lw=shortP n)) bt (gl b g (lv + 1) q (it + 1) (if lw=31 then none else some (cntP 6 n)) 8) with | .error e=>.error e | .ok (l,r,j,lo',bt')=>.ok (.mk (6:Nat) n [] l,r,j,lo',bt') by rw [HR2.out];simp only [if_neg (show ¬ 8≤lv by omega)];exact it_els (mj:=6) (by omega) hlw2)
       rw [hcc,show zsP lw=z from HZ.out.symm] at HE;clear hcc HR2;refine sqc ?_;go_simp;refine sqc ?_;go_simp;refine gw ?_;go_simp;go_bits;refine cl [] [1000] (AC.merge (elemz_c LB 1000 ver b g (lv + 1) q (it + 1) (lo || decide (lw=31) || !decide (z=shortP n)) bt 6 lw 1 z hb hq2 (by omega) (by omega) (by omega) (by omega) hlw2 (by omega) (fun k hk=>ih k (by omega)) (decide (lw=31)) rfl (1) 1 rfl (by omega) (by omega))) (by go_simp) ?_;rintro r rows hT;cases ht:elR b (decide (lw=31)) 6 (lo || decide (lw=31) || !decide (z=shortP n)) bt (gl b g (lv + 1) q (it + 1) (cO (decide (lw=31)) (1) 0) 8) with
       | error e'=>
         rw [ht] at hT;have HE:=dh (HE.out.trans (by rw [ht]));have hne:=elR_err ht;clear ht;obtain ⟨⟨a,rfl,rfl⟩,p2,it2,lo2,bt2,rfl⟩:=hT;go_simp
         exact RdN.err HE.out ⟨_,rfl⟩
       | ok y=>
         obtain ⟨l,p2,it2,lo2,bt2⟩:=y;rw [ht] at hT;have HE:=dh (HE.out.trans (by rw [ht]));clear ht;obtain ⟨⟨a,⟨S,hS1,hS2,rfl⟩,rfl⟩,rfl⟩:=hT;go_simp
         exact RdN.ok (x:=.mk (6:Nat) n [] l) HE.out (itzN.kids hS1 hS2)
end Go.Proofs.YtelefkkkccilaaaDoor
namespace Go.Proofs.YtelefkkkccilaaaDoor
open Go.RowKit
theorem validD_app (m:List UInt8):∀ (n:Nat) (l:List UInt8),l.length≤n→Lib.validD l=true→Lib.validD (l ++ m)=Lib.validD m
 | 0,l,hl,_=>by
   have:l=[]:=List.length_eq_zero_iff.1 (by omega);subst this;rfl
 | n + 1,[],_,_=>rfl
 | n + 1,c :: l,hl,hv=>by
   by_cases h0:c.toNat < 128
   ·rw [Lib.validD_cons c l h0] at hv
    rw [List.cons_append,Lib.validD_cons c _ h0];exact validD_app m n l (by simpa using hl) hv
   ·have h1:128≤((c :: l).getD 0 0).toNat:=by simpa using h0
    rw [Lib.validD_lead _ (by simp) h1] at hv;have h2:128≤((c :: l ++ m).getD 0 0).toNat:=by simpa using h0
    rw [Lib.validD_lead _ (by simp) h2];have e0:(c :: l ++ m).getD 0 0=(c :: l).getD 0 0:=rfl;rw [e0];generalize Lib.accLo (Lib.firstT ((c :: l).getD 0 0).toNat / 16)=lo at *;generalize Lib.accHi (Lib.firstT ((c :: l).getD 0 0).toNat / 16)=hi at *;generalize Lib.firstT ((c :: l).getD 0 0).toNat % 8=sz at *;have ge:∀ i,i < (c :: l).length→(c :: l ++ m).getD i 0=(c :: l).getD i 0:=fun i hi=>by
     rw [List.getD_eq_getElem?_getD,List.getD_eq_getElem?_getD,List.getElem?_append_left hi]
    have hL:(c :: l ++ m).length=(c :: l).length + m.length:=by rw [List.length_append]
    rw [hL];generalize hq:(c :: l).length=q at *;have key:∀ k,Lib.checkN q ((c :: l).getD 1 0).toNat ((c :: l).getD 2 0).toNat ((c :: l).getD 3 0).toNat sz lo hi=some k→1 < k∧k≤q∧Lib.checkN (q + m.length) ((c :: l ++ m).getD 1 0).toNat ((c :: l ++ m).getD 2 0).toNat ((c :: l ++ m).getD 3 0).toNat sz lo hi=some k:=by
     intro k hk;unfold Lib.checkN at hk ⊢
     split at hk
     ·rename_i hs
      split at hk
      ·cases hk
      ·rename_i hc
       cases hk
       rw [if_pos hs,ge 1 (by omega),if_neg (by omega)];exact ⟨by omega,by omega,rfl⟩
     ·rename_i hs2
      rw [if_neg hs2]
      split at hk
      ·rename_i hs
       split at hk
       ·cases hk
       ·rename_i hc
        cases hk
        rw [if_pos hs,ge 1 (by omega),ge 2 (by omega),if_neg (by omega)];exact ⟨by omega,by omega,rfl⟩
      ·rename_i hs3
       rw [if_neg hs3]
       split at hk
       ·rename_i hs
        split at hk
        ·cases hk
        ·rename_i hc
         cases hk
         rw [if_pos hs,ge 1 (by omega),ge 2 (by omega),ge 3 (by omega),if_neg (by omega)];exact ⟨by omega,by omega,rfl⟩
       ·cases hk
    split at hv
    ·cases hv
    ·rename_i k hk
     obtain ⟨hk1,hk2,hk3⟩:=key k hk;rw [hk3];simp only;have hd:(c :: l ++ m).drop k=(c :: l).drop k ++ m:=by rw [List.drop_append_of_le_length (by omega)]
     rw [hd];exact validD_app m n _ (by rw [List.length_drop];omega) hv
namespace It
def mapC (l:List It):Option (List It):=if asc .none (flatK (sortK (pairsK l)))=true then some (flatK (sortK (pairsK l))) else Option.none
mutual
def srt:It→Option It
 | mk k n b ks=>match srts ks with
   | Option.none=>Option.none
   | some l=>if k=5 then (mapC l).map (mk 5 n b ·) else some (mk k n b l)
def srts:List It→Option (List It)
 | []=>some []
 | x :: xs=>match srt x with
   | Option.none=>Option.none
   | some y=>match srts xs with
     | Option.none=>Option.none
     | some ys=>some (y :: ys)
end
theorem flatK_pairsK:∀ l:List It,l.length % 2=0→flatK (pairsK l)=l
 | [],_=>rfl
 | [_],h=>by simp at h
 | k :: v :: l,h=>by
   show k :: v :: flatK (pairsK l)=_
   rw [flatK_pairsK l (by simp only [List.length_cons] at h;omega)]
theorem flatK_len:∀ l:List KV,(flatK l).length=2 * l.length
 | []=>rfl
 | p :: l=>by simp [flatK,flatK_len l];omega
theorem nodesL_flatK:∀ l:List KV,nodesL (flatK l)=(l.map fun p=>p.1.nodes + p.2.nodes).sum
 | []=>rfl
 | p :: l=>by simp [flatK,nodesL,nodesL_flatK l];omega
theorem encs_flatK:∀ l:List KV,(encs (flatK l)).length=(l.map fun p=>p.1.enc.length + p.2.enc.length).sum
 | []=>rfl
 | p :: l=>by simp [flatK,encs,encs_flatK l];omega
theorem wfs_flatK {d:Nat}:∀ l:List KV,wfs d (flatK l)=true↔∀ p ∈ l,wf d p.1=true∧wf d p.2=true
 | []=>by simp [flatK,wfs]
 | p :: l=>by simp [flatK,wfs,wfs_flatK l,and_assoc]
theorem mapC_ok {l m:List It} (h:mapC l=some m) (he:l.length % 2=0):m.length=l.length∧nodesL m=nodesL l∧(encs m).length=(encs l).length∧(∀ d,wfs d l=true→wfs d m=true)∧asc .none m=true:=by
 unfold mapC at h
 split at h
 ·rename_i ha
  cases h
  have hp:=sortK_perm (pairsK l);have hl:=flatK_pairsK l he;refine ⟨?_,?_,?_,fun d hw=>?_,ha⟩
  ·rw [flatK_len,hp.length_eq,← flatK_len,hl]
  ·rw [nodesL_flatK,(hp.map _).sum_nat,← nodesL_flatK,hl]
  ·rw [encs_flatK,(hp.map _).sum_nat,← encs_flatK,hl]
  ·rw [wfs_flatK]
   rw [← hl,wfs_flatK] at hw;exact fun p hp2=>hw p (hp.mem_iff.1 hp2)
 ·cases h
theorem srts_len:∀ {l m:List It},srts l=some m→m.length=l.length
 | [],m,h=>by rw [srts] at h;cases h;rfl
 | x :: xs,m,h=>by
   rw [srts] at h
   split at h
   ·cases h
   ·split at h
    ·cases h
    ·rename_i h2
     cases h
     simp [srts_len h2]
end It
mutual
def Gt.cn (b:List UInt8):Gt→Option It
 | .mk mj lw a en n sub=>if mj=4∨mj=5∨mj=6 then (match Gt.cns b sub with
  | none=>none
  | some l=>if mj=5 then (It.mapC l).map (.mk 5 0 [] ·) else some (.mk mj (if mj=6 then n else 0) [] l)) else some (Gt.it b (.mk mj lw a en n sub))
def Gt.cns (b:List UInt8):List Gt→Option (List It)
 | []=>some []
 | t :: l=>match Gt.cn b t with
   | none=>none
   | some y=>match Gt.cns b l with
     | none=>none
     | some ys=>some (y :: ys)
end
mutual
theorem Gt.cn_srt (b:List UInt8):∀ t:Gt,t.ok→t.cn b=(t.it b).srt
 | .mk mj lw a en n sub,⟨h1,_,_,_,_,_,h7⟩=>by
   rw [Gt.cn];by_cases hm:mj=4∨mj=5∨mj=6
   ·rw [if_pos hm,Gt.it]
    simp only [if_neg (show ¬ (mj=2∨mj=3) by omega),if_neg (show ¬ mj < 2 by omega),if_neg (show ¬ mj=7 by omega)];rw [It.srt,Gt.cns_srts b sub h7];cases It.srts (Gt.its b sub) with
    | none=>rfl
    | some l=>
      simp only;by_cases h5:mj=5
      ·subst h5;rfl
      ·rw [if_neg h5,if_neg (show ¬ ((mj:Nat):Int)=5 by omega)]
   ·rw [if_neg hm,Gt.it]
    split
    ·rw [It.srt,It.srts];simp only;rw [if_neg (show ¬ ((mj:Nat):Int)=5 by omega)]
    split
    ·rw [It.srt,It.srts];simp only;rw [if_neg (show ¬ ((mj:Nat):Int)=5 by omega)]
    split
    ·split
     ·rw [It.srt,It.srts];simp only;rw [if_neg (by decide)]
     ·rw [It.srt,It.srts];simp only;rw [if_neg (by decide)]
    ·omega
theorem Gt.cns_srts (b:List UInt8):∀ l:List Gt,Gt.oks l→Gt.cns b l=It.srts (Gt.its b l)
 | [],_=>rfl
 | t :: l,h=>by
   rw [Gt.cns,Gt.its,It.srts,Gt.cn_srt b t h.1,Gt.cns_srts b l h.2]
end
theorem hdP_q {b:List UInt8} {p it ck mj lw n z q:Nat} (h:hdP b p it ck=.ok (mj,lw,n,z,q)):q=p + zsP lw∧(mj=7→lw=24→32≤n):=by
 unfold hdP at h;generalize (b.getD p 0).toNat=c at h
 split at h;· cases h
 split at h;· cases h
 split at h;· cases h
 split at h;· cases h
 split at h
 ·injection h with h;simp only [Prod.mk.injEq] at h;obtain ⟨rfl,rfl,rfl,rfl,rfl⟩:=h
  exact ⟨by unfold zsP;rw [if_pos (.inr rfl)],fun _ h=>by omega⟩
 split at h
 ·injection h with h;simp only [Prod.mk.injEq] at h;obtain ⟨rfl,rfl,rfl,rfl,rfl⟩:=h
  rename_i h6
  exact ⟨by unfold zsP;rw [if_pos (.inl h6)],fun _ h=>by omega⟩
 split at h;· cases h
 split at h;· cases h
 rename_i h5 h6 h7 h8
 injection h with h;simp only [Prod.mk.injEq] at h;obtain ⟨rfl,rfl,rfl,rfl,rfl⟩:=h
 refine ⟨by unfold zsP;rw [if_neg (by omega)];omega,fun a1 a2=>?_⟩;exact Nat.le_of_not_lt fun hlt=>h8 ⟨a1,a2,hlt⟩
theorem short_zs {lw n:Nat} (hl:lw < 28) (h1:lw < 24→n=lw) (h2:24≤lw→n < 256 ^ 2 ^ (lw - 24)):shortP n≤zsP lw:=by
 unfold zsP;by_cases h:lw < 24
 ·rw [if_pos (.inl h),h1 h];unfold shortP;rw [if_pos h];exact Nat.le_refl _
 ·rw [if_neg (by omega)]
  have h2:=h2 (by omega);unfold shortP;rcases (show lw=24∨lw=25∨lw=26∨lw=27 by omega) with rfl | rfl | rfl | rfl
  ·replace h2:n < 256:=h2
   show _≤2
   repeat' split
   all_goals omega
  ·replace h2:n < 65536:=h2
   show _≤3
   repeat' split
   all_goals omega
  ·replace h2:n < 4294967296:=h2
   show _≤5
   repeat' split
   all_goals omega
  ·show _≤9
   repeat' split
   all_goals omega
theorem head_short (m n:Nat):(It.head m n).length=shortP n:=by rw [It.head_length];rfl
theorem flt_short {lw n:Nat} (h24:24 < lw) (hl:lw < 28) (h5:lw=25→n < 65536) (h6:lw=26→n < 4294967296):(It.flt (valP lw n)).length≤zsP lw:=by
 have nan3:(It.flt Fl.nan).length=3:=flt_nan;have any9:∀ v,(It.flt v).length≤9:=fun v=>by
  unfold It.flt
  split
  ·decide
  ·split
   ·simp [It.be_length]
   ·split <;> simp [It.be_length]
 rcases (show lw=25∨lw=26∨lw=27 by omega) with rfl | rfl | rfl
 ·show _≤3
  unfold valP;rw [if_pos rfl]
  split
  ·rw [nan3];exact Nat.le_refl _
  ·rename_i hN
   obtain ⟨a,_,c⟩:=Fl.widenH_narrow (h5 rfl) (by simpa using hN);unfold It.flt;rw [c,if_neg Bool.false_ne_true,a];simp [It.be_length]
 ·show _≤5
  unfold valP;rw [if_neg (by omega),if_pos rfl]
  split
  ·rw [nan3];omega
  ·rename_i hN
   obtain ⟨a,_,c⟩:=Fl.widenS_narrow (h6 rfl) (by simpa using hN);unfold It.flt;rw [c,if_neg Bool.false_ne_true,a]
   split <;> simp [It.be_length]
 ·exact any9 _
theorem Gt.cns_len {b:List UInt8}:∀ {l:List Gt} {m:List It},Gt.cns b l=some m→m.length=l.length
 | [],m,h=>by rw [Gt.cns] at h;cases h;rfl
 | t :: l,m,h=>by
   rw [Gt.cns] at h
   split at h
   ·cases h
   ·split at h
    ·cases h
    ·rename_i h2
     cases h
     simp [Gt.cns_len h2]
theorem gl_cnt {b:List UInt8}:∀ {g lv p it k ck:Nat} {l:List Gt} {q i:Nat},gl b g lv p it (some k) ck=.ok (l,q,i)→l.length=k
 | 0,_,_,_,_,_,_,_,_,h=>by rw [gl] at h;cases h
 | g + 1,lv,p,it,k,ck,l,q,i,h=>by
   rw [gl] at h
   split at h
   ·rename_i h0
    cases h0;cases h;rfl
   ·rename_i h0
    split at h
    ·rename_i h1;cases h1.1
    ·split at h
     ·cases h
     ·rename_i t r j hg
      rw [Option.map_some] at h
      split at h
      ·cases h
      ·rename_i m u v hl
       cases h
       have:=gl_cnt hl;simp only [List.length_cons];have:k≠0:=fun e=>h0 (by rw [e])
       omega
theorem gl_str {b:List UInt8} {mj:Nat} (hm:mj=2∨mj=3):∀ {g lv p it:Nat} {l:List Gt} {q i:Nat},gl b g lv p it none mj=.ok (l,q,i)→it≤256→p≤b.length→(Gt.strs b l).length + l.length + p + 1≤q∧(Gt.bads b l=false→mj=3→Lib.validD (Gt.strs b l)=true)∧(l=[]→Gt.strs b l=[])
 | 0,_,_,_,_,_,_,h,_,_=>by rw [gl] at h;cases h
 | 1,lv,p,it,l,q,i,h,hi,hp=>by
   rw [gl] at h
   split at h
   ·rename_i h0;cases h0
   ·split at h
    ·cases h;exact ⟨by simp [Gt.strs],fun _ _=>rfl,fun _=>rfl⟩
    ·rw [gi] at h;cases h
 | g + 2,lv,p,it,l,q,i,h,hi,hp=>by
   by_cases hb:brk b p=true
   ·rw [gl_brk hb] at h
    cases h
    exact ⟨by simp [Gt.strs],fun _ _=>rfl,fun _=>rfl⟩
   ·have hb:brk b p=false:=by simpa using hb
    rw [gl_chunk hm hb] at h
    split at h
    ·cases h
    ·rename_i x mj' lw n z r hh
     obtain ⟨h1,h2,h3,h4,h5,h6,h7,h8,h9,_⟩:=hdP_ok hh;obtain ⟨rfl,hl31⟩:=h9 (by omega);have h7:=h7 (by omega)
     split at h
     ·rename_i hn
      split at h
      ·cases h
      ·rename_i m u v hl
       cases h
       obtain ⟨a1,a2,a3⟩:=gl_str hm hl (by omega) (by omega);have e1:Gt.strs b (.mk mj' lw p (r + n) n [] :: m)=(b.drop r).take n ++ Gt.strs b m:=by
        show (b.drop (r + n - n)).take n ++ _=_
        rw [show r + n - n=r by omega];rfl
       have e2:((b.drop r).take n).length=n:=by rw [List.length_take,List.length_drop];omega
       refine ⟨by rw [e1,List.length_append,e2,List.length_cons];omega,fun hbd hm3=>?_,fun h=>by cases h⟩;rw [Gt.bads,Gt.bad_flat hl31,Bool.or_eq_false_iff] at hbd;have hv:Lib.validD ((b.drop r).take n)=true:=by
        have:=hbd.1;rw [hm3,show r + n - n=r by omega] at this;simpa using this
       rw [e1,validD_app _ _ _ (Nat.le_refl _) hv];exact a2 hbd.2 hm3
     ·cases h
mutual
theorem gi_cn {b:List UInt8} (hL:b.length≤4096):∀ {g lv p it ck:Nat} {t:Gt} {q i:Nat} {x:It},gi b g lv p it ck=.ok (t,q,i)→it≤256→p≤b.length→lv≤8→t.bad b=false→t.cn b=some x→It.wf (8 - lv) x=true∧x.nodes + it≤i∧x.enc.length + p≤q
 | 0,_,_,_,_,_,_,_,_,h,_,_,_,_,_=>by rw [gi] at h;cases h
 | g + 1,lv,p,it,ck,t,q,i,x,h,hi,hp,hlv,hbd,hx=>by
   rw [gi] at h;cases hh:hdP b p it ck with
   | error e=>rw [hh] at h;cases h
   | ok y=>
     obtain ⟨mj,lw,n,z,r⟩:=y;obtain ⟨h1,h2,h3,h4,h5,h6,h7,h8,h9,h310,hz,h31,hn24⟩:=hdP_ok hh;obtain ⟨hq,h732⟩:=hdP_q hh;have h7:=h7 (by omega);have hnum:24≤lw→lw≠31→n < 256 ^ 2 ^ (lw - 24):=fun a c=>hdP_num hh a c
     have hsz:lw≠31→shortP n≤zsP lw:=fun h=>short_zs (by omega) hn24 fun a=>hnum a h
     rw [hh] at h;simp only at h
     split at h
     ·rename_i hm
      split at h
      ·rename_i hl
       subst hl
       split at h
       ·cases h
       ·rename_i l u j hg
        injection h with h;simp only [Prod.mk.injEq] at h
        obtain ⟨rfl,rfl,rfl⟩:=h;have hbd2:=gl_bd hg (by omega) h7;obtain ⟨a1,a2,a3⟩:=gl_str hm hg (by omega) h7;have hz1:zsP 31=1:=rfl;rw [Gt.cn,if_neg (by omega)] at hx;cases hx
        have hit:Gt.it b (.mk mj 31 p u 0 l)=.mk mj 0 (Gt.strs b l) []:=by rw [Gt.it,if_pos hm,if_pos rfl]
        rw [hit];have hbl:Gt.bads b l=false:=by
         rw [Gt.bad,Bool.or_eq_false_iff] at hbd;exact hbd.2
        have hen:It.enc (.mk mj 0 (Gt.strs b l) [])=It.head mj (Gt.strs b l).length ++ Gt.strs b l:=by
         unfold It.enc;rw [if_neg (by omega),if_pos (by omega)];rfl
        refine ⟨?_,by simp [It.nodes,It.nodesL];omega,?_⟩
        ·rcases hm with rfl | rfl
         ·unfold It.wf;simp
         ·unfold It.wf;simp [a2 hbl rfl]
        ·rw [hen,List.length_append,head_short]
         have hsp:shortP (Gt.strs b l).length≤2 + l.length:=by
          unfold shortP;by_cases h0:l=[]
          ·rw [a3 h0];simp;omega
          ·have:=List.length_pos_iff.2 h0
           repeat' split
           all_goals omega
         omega
      ·rename_i hl
       split at h
       ·rename_i hn
        injection h with h;simp only [Prod.mk.injEq] at h
        obtain ⟨rfl,rfl,rfl⟩:=h;rw [Gt.cn,if_neg (by omega)] at hx;cases hx
        have e1:r + n - n=r:=by omega
        have e2:((b.drop r).take n).length=n:=by rw [List.length_take,List.length_drop];omega
        have hit:Gt.it b (.mk mj lw p (r + n) n [])=.mk mj 0 ((b.drop r).take n) []:=by rw [Gt.it,if_pos hm,if_neg hl,e1]
        rw [hit];rw [Gt.bad_flat hl,e1] at hbd;have hen:It.enc (.mk mj 0 ((b.drop r).take n) [])=It.head mj n ++ (b.drop r).take n:=by
         unfold It.enc;rw [if_neg (by omega),if_pos (by omega),e2];rfl
        refine ⟨?_,by simp [It.nodes,It.nodesL];omega,?_⟩
        ·rcases hm with rfl | rfl
         ·unfold It.wf;simp
         ·unfold It.wf
          have:Lib.validD ((b.drop r).take n)=true:=by simpa using hbd
          simp [this]
        ·rw [hen,List.length_append,head_short,e2]
         have:=hsz hl;omega
       ·cases h
     ·rename_i hm
      split at h
      ·rename_i hm2
       injection h with h;simp only [Prod.mk.injEq] at h
       obtain ⟨rfl,rfl,rfl⟩:=h;have hl31:lw≠31:=fun e=>by have:=h310 e;omega
       rw [Gt.cn,if_neg (by omega)] at hx;cases hx
       rcases hm2 with hm2 | rfl
       ·have hit:Gt.it b (.mk mj lw p r n [])=.mk mj n [] []:=by rw [Gt.it,if_neg hm,if_pos hm2]
        rw [hit];have hen:It.enc (.mk mj n [] [])=It.head mj n:=by
         unfold It.enc;rw [if_pos (by omega)];rfl
        refine ⟨?_,by simp [It.nodes,It.nodesL];omega,by rw [hen,head_short];have:=hsz hl31;omega⟩;unfold It.wf;rw [if_pos (by omega)];simp [h5]
       ·have hit:Gt.it b (.mk 7 lw p r n [])=if 25≤lw then .mk 8 (valP lw n) [] [] else .mk 7 n [] []:=by rw [Gt.it,if_neg (by omega),if_neg (by omega),if_pos rfl]
        rw [hit];have h25:lw=25→n < 65536:=fun e=>by subst e;exact hnum (by omega) (by omega)
        have h26:lw=26→n < 4294967296:=fun e=>by subst e;exact hnum (by omega) (by omega)
        by_cases hlw:25≤lw
        ·rw [if_pos hlw]
         have hv:=valP_ok (lw:=lw) h5 h25 h26;have hfs:=flt_short (n:=n) (show 24 < lw by omega) (by omega) h25 h26;have hvd:=flt_valid hv.1 hv.2;have hw:It.wf (8 - lv) (.mk 8 (valP lw n) [] [])=true:=by
          unfold It.wf;rcases hv.2 with h | h
          ·simp [hv.1,h]
          ·rw [h];simp;decide
         refine ⟨hw,by simp [It.nodes,It.nodesL];omega,?_⟩;rw [show It.enc (.mk 8 (valP lw n) [] [])=It.flt (valP lw n) by unfold It.enc;rfl];omega
        ·rw [if_neg hlw]
         have hn2:n < 24∨32≤n∧n < 256:=by
          by_cases h24:lw < 24
          ·left;rw [hn24 h24];exact h24
          ·obtain rfl:lw=24:=by omega
           have:=hnum (by omega) (by omega);exact .inr ⟨h732 rfl rfl,this⟩
         refine ⟨?_,by simp [It.nodes,It.nodesL];omega,?_⟩
         ·unfold It.wf
          have:n < 18446744073709551616:=h5;simp [this];omega
         ·have hen:(It.enc (.mk 7 n [] [])).length=if n < 24 then 1 else 2:=by
           unfold It.enc;rw [if_neg (by omega),if_neg (by omega),if_neg (by omega),if_neg (by omega),if_neg (by omega),if_pos rfl]
           split <;> rfl
          rw [hen];by_cases h24:lw < 24
          ·rw [if_pos (by rw [hn24 h24];exact h24)];omega
          ·obtain rfl:lw=24:=by omega
           have:zsP 24=2:=rfl
           split <;> omega
      ·rename_i hm2
       split at h
       ·cases h
       ·rename_i hlv8
        split at h
        ·cases h
        ·rename_i l u j hg
         split at h
         ·cases h
         ·rename_i hev
          injection h with h;simp only [Prod.mk.injEq] at h
          obtain ⟨rfl,rfl,rfl⟩:=h;have hbl:Gt.bads b l=false:=by
           rw [Gt.bad,Bool.or_eq_false_iff] at hbd;exact hbd.2
          have hbd2:=gl_bd hg (by omega) h7;rw [Gt.cn,if_pos (by omega)] at hx;cases hc:Gt.cns b l with
          | none=>rw [hc] at hx;cases hx
          | some m=>
            rw [hc] at hx;simp only at hx;have hml:=Gt.cns_len hc;obtain ⟨a1,a2,a3⟩:=gl_cn hL hg (by omega) h7 (by omega) hbl hc;have hlen:m.length≤It.nodesL m:=It.length_le_nodesL m;have hcount:lw≠31→l.length=cntP mj n:=fun hl=>by rw [if_neg hl] at hg;exact gl_cnt hg
            have hopen:lw=31→(It.encs m).length + r + 1≤u:=fun hl=>by rw [if_pos hl,if_pos rfl] at a3;exact a3
            have hdef:lw≠31→(It.encs m).length + r≤u:=fun hl=>by rw [if_neg hl] at a3;simpa using a3
            have hz31:zsP 31=1:=rfl;have h8lv:8 - (lv + 1)=8 - lv - 1:=by omega
            rw [h8lv] at a1;rcases (show mj=4∨mj=5∨mj=6 by omega) with rfl | rfl | rfl
            ·rw [if_neg (by omega),if_neg (by omega)] at hx
             cases hx
             have hen:(It.enc (.mk (4:Nat) 0 [] m)).length=shortP m.length + (It.encs m).length:=by
              rw [← head_short 4,← List.length_append];rfl
             refine ⟨?_,by simp [It.nodes];omega,?_⟩
             ·unfold It.wf
              simp [a1];omega
             ·rw [hen]
              by_cases hl:lw=31
              ·have:=hopen hl
               have hs2:shortP m.length≤2:=by unfold shortP;repeat' split
                                              all_goals omega
               rw [hl,hz31] at hq;omega
              ·have h10:=hdef hl
               have h11:=hcount hl;have h12:=hsz hl
               replace h11:l.length=n:=h11
               rw [hml,h11];omega
            ·rw [if_pos rfl] at hx
             have hevm:m.length % 2=0:=by
              rw [hml];by_cases hl:lw=31
              ·have:¬ l.length % 2=1:=fun h=>hev ⟨hl,rfl,h⟩
               omega
              ·have h11:=hcount hl
               replace h11:l.length=2 * n:=h11
               omega
             cases hmc:It.mapC m with
             | none=>rw [hmc] at hx;cases hx
             | some m2=>
               rw [hmc] at hx;cases hx
               obtain ⟨c1,c2,c3,c4,c5⟩:=It.mapC_ok hmc hevm;have hen:(It.enc (.mk (5:Nat) 0 [] m2)).length=shortP (m2.length / 2) + (It.encs m2).length:=by
                rw [← head_short 5,← List.length_append];rfl
               refine ⟨?_,by show 1 + It.nodesL m2 + it≤_;omega,?_⟩
               ·show It.wf (8 - lv) (.mk 5 0 [] m2)=true
                unfold It.wf;simp [c4 _ a1,c5];omega
               ·show (It.enc (.mk (5:Nat) 0 [] m2)).length + p≤_
                rw [hen,c1,c3];by_cases hl:lw=31
                ·have:=hopen hl
                 have hs2:shortP (m.length / 2)≤2:=by unfold shortP;repeat' split
                                                      all_goals omega
                 rw [hl,hz31] at hq;omega
                ·have h10:=hdef hl
                 have h11:=hcount hl;have h12:=hsz hl
                 replace h11:l.length=2 * n:=h11
                 rw [hml,h11,show 2 * n / 2=n by omega];omega
            ·rw [if_neg (by omega),if_pos rfl] at hx
             cases hx
             have hl:lw≠31:=fun e=>by have:=h310 e;omega
             have hen:(It.enc (.mk (6:Nat) n [] m)).length=shortP n + (It.encs m).length:=by
              rw [← head_short 6,← List.length_append];rfl
             have h10:=hdef hl;have h11:=hcount hl;have h12:=hsz hl
             replace h11:l.length=1:=h11
             refine ⟨?_,by simp [It.nodes];omega,by rw [hen];omega⟩;unfold It.wf;simp [a1,h5,hml,h11];omega
theorem gl_cn {b:List UInt8} (hL:b.length≤4096):∀ {g lv p it:Nat} {c:Option Nat} {ck:Nat} {l:List Gt} {q i:Nat} {m:List It},gl b g lv p it c ck=.ok (l,q,i)→it≤256→p≤b.length→lv≤8→Gt.bads b l=false→Gt.cns b l=some m→It.wfs (8 - lv) m=true∧It.nodesL m + it≤i∧(It.encs m).length + p + (if c=none then 1 else 0)≤q
 | 0,_,_,_,_,_,_,_,_,_,h,_,_,_,_,_=>by rw [gl] at h;cases h
 | g + 1,lv,p,it,c,ck,l,q,i,m,h,hi,hp,hlv,hbd,hm=>by
   rw [gl] at h
   split at h
   ·rename_i h0
    injection h with h;simp only [Prod.mk.injEq] at h;obtain ⟨rfl,rfl,rfl⟩:=h
    rw [Gt.cns] at hm;cases hm;rw [h0];exact ⟨rfl,by simp [It.nodesL],by simp [It.encs]⟩
   ·split at h
    ·rename_i h0
     injection h with h;simp only [Prod.mk.injEq] at h;obtain ⟨rfl,rfl,rfl⟩:=h
     rw [Gt.cns] at hm;cases hm;rw [h0.1];exact ⟨rfl,by simp [It.nodesL],by simp [It.encs]⟩
    ·cases hg:gi b g lv p it ck with
     | error e=>rw [hg] at h;cases h
     | ok x=>
       obtain ⟨t,r,j⟩:=x;have h1:=gi_bd hg hi hp;rw [hg] at h;simp only at h;cases hl:gl b g lv r j (c.map (· - 1)) ck with
       | error e=>rw [hl] at h;cases h
       | ok y=>
         obtain ⟨m',u,k⟩:=y;rw [hl] at h;injection h with h;simp only [Prod.mk.injEq] at h;obtain ⟨rfl,rfl,rfl⟩:=h
         rw [Gt.bads,Bool.or_eq_false_iff] at hbd;rw [Gt.cns] at hm;cases hx:Gt.cn b t with
         | none=>rw [hx] at hm;cases hm
         | some y=>
           rw [hx] at hm;simp only at hm;cases hxs:Gt.cns b m' with
           | none=>rw [hxs] at hm;cases hm
           | some ys=>
             rw [hxs] at hm;cases hm
             obtain ⟨a1,a2,a3⟩:=gi_cn hL hg hi hp hlv hbd.1 hx;obtain ⟨c1,c2,c3⟩:=gl_cn hL hl (by omega) (by omega) hlv hbd.2 hxs;refine ⟨by simp [It.wfs,a1,c1],by simp [It.nodesL];omega,?_⟩;simp only [It.encs,List.length_append];by_cases hcn:c=none
             ·rw [hcn] at c3 ⊢
              simp at c3 ⊢;omega
             ·have:¬ c.map (· - 1)=none:=by cases c with
               | none=>exact absurd rfl hcn
               | some k=>simp
              rw [if_neg this] at c3;rw [if_neg hcn];omega
end
end Go.Proofs.YtelefkkkccilaaaDoor
namespace Go.Proofs.YtelefkkkccilaaaDoor
open Am Go.RowKit
set_option maxRecDepth 100000
namespace It
mutual
def sm:It→It→Bool
 | mk k n b ks,mk k' n' b' ks'=>decide (k=k') && decide (n=n') && decide (b=b') && decide (ks.length=ks'.length) && sms ks ks'
def sms:List It→List It→Bool
 | x :: xs,y :: ys=>sm x y && sms xs ys
 | _,_=>true
end
mutual
theorem sm_iff:∀ {x y:It},sm x y=true↔x=y
 | mk k n b ks,mk k' n' b' ks'=>by
   rw [sm];simp only [Bool.and_eq_true,decide_eq_true_eq,mk.injEq];constructor
   ·rintro ⟨⟨⟨⟨rfl,rfl⟩,rfl⟩,hl⟩,h⟩
    exact ⟨rfl,rfl,rfl,(sms_iff hl).1 h⟩
   ·rintro ⟨rfl,rfl,rfl,rfl⟩
    exact ⟨⟨⟨⟨rfl,rfl⟩,rfl⟩,rfl⟩,(sms_iff rfl).2 rfl⟩
theorem sms_iff:∀ {l m:List It},l.length=m.length→(sms l m=true↔l=m)
 | [],[],_=>by simp [sms]
 | x :: xs,y :: ys,h=>by
   rw [sms,Bool.and_eq_true,sm_iff,sms_iff (by simpa using h)];simp
 | [],_ :: _,h=>by simp at h
 | _ :: _,[],h=>by simp at h
end
end It
section
variable {X:Ev}
set_option maxHeartbeats 4000000 in
theorem same_c (d:Nat):∀ x y:It,x.nodes≤d→x.gsz≤1000000000→y.gsz≤1000000000→AC Tryd.prog X 11 [itS x,itS y] [] fun r rows=>r=bov (It.sm x y)∧rows=[]:=by
 induction d with
 | zero=>intro x y h;cases x;simp [It.nodes] at h
 | succ d ih=>
   rintro ⟨k,n,b,ks⟩ ⟨k',n',b',ks'⟩ hd hx hy;have IH:=dh ih;clear ih;have hb:b.length≤1000000000:=by rw [It.gsz] at hx;omega
   have hb':b'.length≤1000000000:=by rw [It.gsz] at hy;omega
   have HS:=dh (It.sm.eq_1 k n b ks k' n' b' ks');generalize It.sm (.mk k n b ks) (.mk k' n' b' ks')=P at *;refine AC.bodyW false Tryd.func11 rfl Tryd.call11 Tryd.ntmps11 (by simp) fun e nx=>?_
   go_simp
   refine sqc ?_;go_simp;refine ct (α:=Unit) (fun _=>Hid (P=It.sms ks ks')∧ks.length=ks'.length) (fun _=>⟨[(2,.ptr 2 nx 0),(3,.ptr 3 (nx + 1) 0),(4,.v (.bool false))],[(2,⟨nx,31,4,[iv k,uv n,bsl b,isl ks]⟩),(3,⟨nx + 1,31,4,[iv k',uv n',bsl b',isl ks']⟩)],nx + 1 + 1,[],53⟩) [] (gw ?_) ?_
   ·go_simp
    refine gdn (fun h1=>?_) (fun h1=>?_)
    ·have HE:=dh (show P=false by rw [HS.out,decide_eq_false h1];rfl)
     go_simp
     exact HE.out
    obtain rfl:k=k':=h1;go_simp
    refine gdn (fun h2=>?_) (fun h2=>?_)
    ·have HE:=dh (show P=false by rw [HS.out,decide_eq_false (show ¬ n=n' by omega)];simp)
     go_simp
     exact HE.out
    obtain rfl:n=n':=by omega
    go_simp
    have hcp:=rcmp_c X b b' (by omega) (by omega);have hce:It.cmpB b b'=0↔b=b':=⟨It.cmpB_eq,fun e=>by rw [e,It.cmpB_self]⟩;generalize It.cmpB b b'=C at *;refine cl [] [] hcp (by go_simp) ?_;rintro r rows ⟨rfl,rfl⟩;go_simp
    refine gdn (fun h3=>?_) (fun h3=>?_)
    ·have HE:=dh (show P=false by rw [HS.out,decide_eq_false (show ¬ b=b' from h3)];simp)
     go_simp
     exact HE.out
    obtain rfl:b=b':=h3;clear hce hcp;go_simp
    refine ifn (fun h4=>?_) (fun h4=>?_)
    ·have HE:=dh (show P=false by rw [HS.out,decide_eq_false (show ¬ ks.length=ks'.length by omega)];simp)
     go_simp
     exact HE.out
    ·have hl:ks.length=ks'.length:=by omega
     have HE:=dh (show P=It.sms ks ks' by rw [HS.out,decide_eq_true hl];simp);have HL:=dh hl;clear hl;go_simp
     exact HL.out
   ·rintro - ⟨hP,hlen⟩
    replace hP:Hid (P=It.sms ks ks'):=hP
    replace hlen:ks.length=ks'.length:=hlen
    have HL:=dh hlen;clear hlen HS;have hxk:It.gszs ks≤1000000000:=by rw [It.gsz] at hx;omega
    have hyk:It.gszs ks'≤1000000000:=by rw [It.gsz] at hy;omega
    have hkl:ks.length≤1000000000:=Nat.le_trans (It.gszs_len ks) hxk;have hdk:It.nodesL ks≤d:=by simp only [It.nodes] at hd;omega
    refine sqc ?_;go_simp;refine lp (α:=Nat × Nat) (fun x=>x.2≤ks.length∧Hid (P=It.sms (ks.drop x.2) (ks'.drop x.2))) (fun x=>⟨[(2,.ptr 2 nx 0),(3,.ptr 3 (nx + 1) 0),(4,.v (.bool false)),(37,isl ks),(38,iv ks.length),(39,iv x.2)],[(2,⟨nx,31,4,[iv k,uv n,bsl b,isl ks]⟩),(3,⟨nx + 1,31,4,[iv k',uv n',bsl b',isl ks']⟩)],x.1,[],53⟩) (fun x=>ks.length - x.2) [] [] (nx + 1 + 1,0) ?_ ?_
    ·go_simp
     skip
    ·rintro ⟨u,i⟩ ⟨hi,hPi⟩
     replace hi:i≤ks.length:=hi
     replace hPi:Hid (P=It.sms (ks.drop i) (ks'.drop i)):=hPi
     refine gw ?_;go_simp
     refine ifd (fun h=>?_) (fun h=>?_) <;> go_simp
     ·have hik:i < ks.length:=by omega
      have hik':i < ks'.length:=by rw [← HL.out];exact hik
      go_simp
      have h1:=It.nodes_in (List.getElem_mem hik);have h2:=It.gszs_in hik;have h3:=It.gszs_in hik';have HC:=IH.out ks[i] ks'[i] (by omega) (by omega) (by omega);have hPi:=dh (hPi.out.trans (show It.sms (ks.drop i) (ks'.drop i)=(It.sm ks[i] ks'[i] && It.sms (ks.drop (i + 1)) (ks'.drop (i + 1))) by
       rw [List.drop_eq_getElem_cons hik,List.drop_eq_getElem_cons hik',It.sms]))
      clear h1 h2 h3;refine rg hmx (by kernel_rfl) ?_;go_simp
      generalize It.sm ks[i] ks'[i]=B at *;refine cl [] [] HC (by go_simp) ?_;rintro r rows ⟨rfl,rfl⟩;go_simp
      cases B with
      | false=>
        go_simp
        rw [hPi.out];rfl
      | true=>
        have hPi:=dh (hPi.out.trans (Bool.true_and _));go_simp;go_bits
        exact ⟨_,i + 1,⟨by omega,hPi⟩,by omega,Nat.le_refl _,by omega⟩
     ·have hE:=hPi.out
      rw [show i=ks.length by omega,List.drop_length,It.sms] at hE;have HE:=dh hE;clear hE hPi;refine gw ?_;go_simp;rw [HE.out];intro x xs y ys e;cases e
end
section
variable (mj lw a e n:Nat) (l:List Gt)
@[go_sem] theorem gt_mj:(Gt.mk mj lw a e n l).mj=mj:=rfl
@[go_sem] theorem gt_lw:(Gt.mk mj lw a e n l).lw=lw:=rfl
@[go_sem] theorem gt_beg:(Gt.mk mj lw a e n l).beg=a:=rfl
@[go_sem] theorem gt_en:(Gt.mk mj lw a e n l).en=e:=rfl
@[go_sem] theorem gt_n:(Gt.mk mj lw a e n l).n=n:=rfl
@[go_sem] theorem gt_sub:(Gt.mk mj lw a e n l).sub=l:=rfl
end
mutual
def Gt.inb (L:Nat):Gt→Prop
 | .mk mj lw _ en n sub=>((mj=2∨mj=3)→(lw≠31→n≤en∧en≤L∧sub=[])∧(lw=31→∀ s ∈ sub,s.mj=mj∧s.lw≠31))∧Gt.inbs L sub
def Gt.inbs (L:Nat):List Gt→Prop
 | []=>True
 | t :: l=>Gt.inb L t∧Gt.inbs L l
end
theorem Gt.inbs_in {L:Nat}:∀ {l:List Gt} {i:Nat} (h:i < l.length),Gt.inbs L l→(l[i]).inb L
 | t :: l,0,_,h=>h.1
 | t :: l,i + 1,hi,h=>by simpa using Gt.inbs_in (i:=i) (by simpa using hi) h.2
theorem gi_ck {b:List UInt8} {g lv p it ck:Nat} {t:Gt} {q i:Nat} (h:gi b g lv p it ck=.ok (t,q,i)) (hc:ck < 8):t.mj=ck∧t.lw≠31:=by
 cases g with
 | zero=>rw [gi] at h;cases h
 | succ g=>
   rw [gi] at h;cases hh:hdP b p it ck with
   | error e=>rw [hh] at h;cases h
   | ok x=>
     obtain ⟨mj,lw,n,z,r⟩:=x;obtain ⟨rfl,hl⟩:=(hdP_ok hh).2.2.2.2.2.2.2.2.1 hc;rw [hh] at h;simp only at h
     repeat' (split at h)
     all_goals first | (cases h;done) | (cases h;exact ⟨rfl,hl⟩) | exact absurd ‹_› hl
theorem gl_ck {b:List UInt8} {ck:Nat} (hc:ck < 8):∀ {g lv p it:Nat} {c:Option Nat} {l:List Gt} {q i:Nat},gl b g lv p it c ck=.ok (l,q,i)→∀ s ∈ l,s.mj=ck∧s.lw≠31
 | 0,_,_,_,_,_,_,_,h=>by rw [gl] at h;cases h
 | g + 1,lv,p,it,c,l,q,i,h=>by
   rw [gl] at h
   split at h
   ·cases h;intro s hs;cases hs
   ·split at h
    ·cases h;intro s hs;cases hs
    ·split at h
     ·cases h
     ·rename_i t r j hg
      split at h
      ·cases h
      ·rename_i m u k hl
       cases h
       intro s hs;rcases List.mem_cons.1 hs with rfl | hs
       ·exact gi_ck hg hc
       ·exact gl_ck hc hl s hs
mutual
theorem gi_inb {b:List UInt8}:∀ {g lv p it ck:Nat} {t:Gt} {q i:Nat},gi b g lv p it ck=.ok (t,q,i)→it≤256→p≤b.length→t.inb b.length
 | 0,_,_,_,_,_,_,_,h,_,_=>by rw [gi] at h;cases h
 | g + 1,lv,p,it,ck,t,q,i,h,hi,hp=>by
   rw [gi] at h;cases hh:hdP b p it ck with
   | error e=>rw [hh] at h;cases h
   | ok x=>
     obtain ⟨mj,lw,n,z,r⟩:=x;obtain ⟨h1,h2,h3,h4,h5,h6,h7,h8,_⟩:=hdP_ok hh;have h7:=h7 (by omega);rw [hh] at h;simp only at h
     split at h
     ·rename_i hm
      split at h
      ·rename_i hl
       cases hg:gl b g lv r (it + 1) none mj with
       | error e=>rw [hg] at h;cases h
       | ok y=>
         obtain ⟨l,u,j⟩:=y;have h10:=gl_inb hg (by omega) h7;have h11:=gl_ck (by omega) hg;rw [hg] at h;injection h with h;simp only [Prod.mk.injEq] at h
         obtain ⟨rfl,rfl,rfl⟩:=h;exact ⟨fun _=>⟨fun h=>absurd hl h,fun _=>h11⟩,h10⟩
      ·rename_i hl
       split at h
       ·injection h with h;simp only [Prod.mk.injEq] at h
        obtain ⟨rfl,rfl,rfl⟩:=h;exact ⟨fun _=>⟨fun _=>⟨by omega,by omega,rfl⟩,fun h=>absurd h hl⟩,trivial⟩
       ·cases h
     ·rename_i hm
      split at h
      ·injection h with h;simp only [Prod.mk.injEq] at h
       obtain ⟨rfl,rfl,rfl⟩:=h;exact ⟨fun h=>absurd h hm,trivial⟩
      ·split at h
       ·cases h
       ·cases hg:gl b g (lv + 1) r (it + 1) (if lw=31 then none else some (cntP mj n)) 8 with
        | error e=>rw [hg] at h;cases h
        | ok y=>
          obtain ⟨l,u,j⟩:=y;have h10:=gl_inb hg (by omega) h7;rw [hg] at h;simp only at h
          split at h
          ·cases h
          ·injection h with h;simp only [Prod.mk.injEq] at h
           obtain ⟨rfl,rfl,rfl⟩:=h;exact ⟨fun h=>absurd h hm,h10⟩
theorem gl_inb {b:List UInt8}:∀ {g lv p it:Nat} {c:Option Nat} {ck:Nat} {l:List Gt} {q i:Nat},gl b g lv p it c ck=.ok (l,q,i)→it≤256→p≤b.length→Gt.inbs b.length l
 | 0,_,_,_,_,_,_,_,_,h,_,_=>by rw [gl] at h;cases h
 | g + 1,lv,p,it,c,ck,l,q,i,h,hi,hp=>by
   rw [gl] at h
   split at h
   ·injection h with h;simp only [Prod.mk.injEq] at h;obtain ⟨rfl,rfl,rfl⟩:=h;trivial
   ·split at h
    ·injection h with h;simp only [Prod.mk.injEq] at h;obtain ⟨rfl,rfl,rfl⟩:=h;trivial
    ·cases hg:gi b g lv p it ck with
     | error e=>rw [hg] at h;cases h
     | ok x=>
       obtain ⟨t,r,j⟩:=x;have h1:=gi_bd hg hi hp;have h3:=gi_inb hg hi hp;rw [hg] at h;simp only at h;cases hl:gl b g lv r j (c.map (· - 1)) ck with
       | error e=>rw [hl] at h;cases h
       | ok y=>
         obtain ⟨m,u,k⟩:=y;have h2:=gl_inb hl (by omega) (by omega);rw [hl] at h;injection h with h;simp only [Prod.mk.injEq] at h;obtain ⟨rfl,rfl,rfl⟩:=h
         exact ⟨h3,h2⟩
end
set_option maxHeartbeats 4000000 in
theorem texts_c (b:List UInt8) (hb:b.length≤1000000000) (d:Nat):∀ t:Gt,t.nd≤d→t.ok→t.inb b.length→AC Tryd.prog XU 26 [bsl b,.agg (gtc t)] [] fun r rows=>r=bov (!t.bad b)∧rows=[]:=by
 induction d with
 | zero=>intro t h;cases t;simp [Gt.nd] at h
 | succ d ih=>
   rintro ⟨mj,lw,bg,en,n,sub⟩ hd ht hin;have IH:=dh ih;clear ih;obtain ⟨h1,h2,h3,h4,h5,h6,h7⟩:=Gt.okf ht
   replace h1:mj < 8:=h1
   replace h3:n < 18446744073709551616:=h3
   replace h6:sub.length≤256:=h6
   replace h7:Gt.oks sub:=h7
   obtain ⟨hs,hin2⟩:=hin;clear h2 h4 h5 ht;have HB:=dh (Gt.bad.eq_1 b mj lw bg en n sub);generalize Gt.bad b (.mk mj lw bg en n sub)=B at *;refine AC.bodyW false Tryd.func26 rfl Tryd.call26 Tryd.ntmps26 (by simp) fun e nx=>?_
   go_simp
   refine sqc ?_;go_simp;refine ct (α:=Unit) (fun _=>Hid (B=Gt.bads b sub)) (fun _=>⟨[(0,bsl b),(3,.ptr 3 nx 0),(4,.v (.bool false))],[(3,⟨nx,57,7,[iv mj,iv lw,iv bg,iv en,uv (if lw=31 then (31:Nat) else n:Nat),bov (decide (lw=31)),.sl sub.length 7 (gtL sub)]⟩)],nx + 1,[],41⟩) [] (gw ?_) ?_
   ·go_simp
    refine gdd (fun h8=>?_) (fun h8=>?_)
    ·obtain rfl:mj=3:=by omega
     by_cases hl:lw=31
     ·subst hl
      have HE:=dh (show B=Gt.bads b sub by rw [HB.out];rfl);go_simp
      skip
     ·obtain ⟨a1,a2,-⟩:=(hs (.inr rfl)).1 hl
      have HE:=dh (show B=(!Lib.validD ((b.drop (en - n)).take n) || Gt.bads b sub) by rw [HB.out,show (lw !=31)=true by simpa using hl];rfl);clear hs HB;go_simp;go_bits
      rw [show en - (en - n)=n by omega];refine ⟨by omega,?_⟩;have hL:(List.take n (List.drop (en - n) b)).length=n:=by simp only [List.length_take,List.length_drop];omega
      generalize hLL:List.take n (List.drop (en - n) b)=L at *;clear hLL;subst hL;refine cl [] [] (valid_c L (by omega)) (by go_simp) ?_;rintro r rows ⟨rfl,rfl⟩;generalize Lib.validD L=V at *;go_simp
      cases V with
      | true=>
        have HE:=dh (HE.out.trans (Bool.false_or _));go_simp
      | false=>
        go_simp
        rw [HE.out];rfl
    ·have HE:=dh (show B=Gt.bads b sub by rw [HB.out,show (mj==3)=false by simp;omega];rfl)
     go_simp
     exact ⟨rfl,rfl⟩
   ·rintro - hB
    replace hB:Hid (B=Gt.bads b sub):=hB
    have hdk:Gt.nds sub≤d:=by simp only [Gt.nd] at hd;omega
    refine sqc ?_;go_simp;refine lp (α:=Nat × Nat) (fun x=>x.2≤sub.length∧Hid (B=Gt.bads b (sub.drop x.2))) (fun x=>⟨[(0,bsl b),(3,.ptr 3 nx 0),(4,.v (.bool false)),(30,.sl sub.length 7 (gtL sub)),(31,iv sub.length),(32,iv x.2)],[(3,⟨nx,57,7,[iv mj,iv lw,iv bg,iv en,uv (if lw=31 then (31:Nat) else n:Nat),bov (decide (lw=31)),.sl sub.length 7 (gtL sub)]⟩)],x.1,[],41⟩) (fun x=>sub.length - x.2) [] [] (nx + 1,0) ?_ ?_
    ·go_simp
    ·rintro ⟨u,i⟩ ⟨hi,hBi⟩
     replace hi:i≤sub.length:=hi
     replace hBi:Hid (B=Gt.bads b (sub.drop i)):=hBi
     refine gw ?_;go_simp
     refine ifd (fun h=>?_) (fun h=>?_) <;> go_simp
     ·have hik:i < sub.length:=by omega
      have HC:=IH.out sub[i] (by have:=Gt.nds_in hik;omega) (Gt.oks_in hik h7) (Gt.inbs_in hik hin2);have hBi:=dh (hBi.out.trans (by rw [List.drop_eq_getElem_cons hik,Gt.bads]));go_simp
      generalize Gt.bad b sub[i]=P at *;refine cl [] [] HC (by go_simp) ?_;rintro r rows ⟨rfl,rfl⟩;go_simp
      cases P with
      | true=>
        go_simp
        rw [hBi.out];rfl
      | false=>
        have hBi:=dh (hBi.out.trans (Bool.false_or _));go_simp;go_bits
        exact ⟨_,i + 1,⟨by omega,hBi⟩,by omega,Nat.le_refl _,by omega⟩
     ·have hE:=hBi.out
      rw [show i=sub.length by omega,List.drop_length,Gt.bads] at hE;have HE:=dh hE;clear hE hBi;refine gw ?_;go_simp;rw [HE.out]
end Go.Proofs.YtelefkkkccilaaaDoor
namespace Go.Proofs.YtelefkkkccilaaaDoor
open Am Go.RowKit
set_option maxRecDepth 100000
namespace Am
def cln:SV→Bool
 | .own .. | .ptr .. | .agg _ | .tup _=>false
 | _=>true
theorem holds.cln {g:Cx} {w:World}:∀ {s:SV} {v:Value},cln s=true→holds g w s v→holds g.pure w s v
 | .any,_,_,_=>trivial
 | .v _,_,_,h=>h
 | .sl ..,_,_,h=>h
 | .rp _,_,_,h=>h
 | .s _,_,_,h=>h
theorem agL.cln {g:Cx} {w:World}:∀ {cs:List SV} {vs:List Value},cs.all Am.cln=true→agL g w cs vs→agL g.pure w cs vs
 | [],[],_,_=>trivial
 | c :: cs,v :: vs,hc,h=>by
   rw [List.all_cons,Bool.and_eq_true] at hc;exact ⟨h.1.cln hc.1,agL.cln hc.2 h.2⟩
 | [],_ :: _,_,h=>h.elim
 | _ :: _,[],_,h=>h.elim
section
variable {P:Program} {X:Ev} {e:En}
theorem Rel.frz {σ:AS} {a:Act} {w:World} (hr:Rel X e σ a w) (d:Nat) {s v n k:Nat} {r:Row} (h1:look σ.fr d=.own s v n k) (h2:lookR σ.hp s=some r) (h3:r.ver=v∧s < 1000∧r.cs.length=n * k∧r.cs.all cln=true∧n≤9223372036854775807):Rel X e ⟨(d,.sl n k r.cs) :: σ.fr,dropR s σ.hp,σ.nx,σ.fz,σ.N⟩ a w:=by
 obtain ⟨hd,hs,g,hf,hI⟩:=hr;obtain ⟨rfl,hs1,hlen,hcl,hn9⟩:=h3;have hslot:=hf d;rw [h1] at hslot;obtain ⟨hA,⟨hn,hk9⟩,hv⟩:=hslot;have hrow:=hI.row s r h2
 let g':Cx:=⟨fun b=>g.Z b∨(g.ka r.ver≠0∧b=g.mu r.ver),g.A,g.mu,g.ka⟩
 have hle:g.le g':=⟨fun _ h=>.inl h,fun u hu=>⟨hu,rfl,rfl⟩⟩;have key:∀ u q,lookR (dropR s σ.hp) u=some q→u≠s∧lookR σ.hp u=some q:=fun u q hu=>lookR_dropR _ _ _ _ hu
 refine ⟨hd,hs,g',fun d'=>?_,⟨hI.le.trans hle,fun u q hu=>(hI.row u q (key u q hu).2).mono hle (fun _ _=>rfl) fun _=>rfl,fun u u' q q' hu hu'=>hI.apart u u' q q' (key u q hu).2 (key u' q' hu').2,fun u q hu hz hk hZ=>?_,fun u q hu=>hI.mine u q (key u q hu).2,hI.ver,hI.blk,fun b hb=>?_,fun b hb=>?_,hI.keep,hI.size,hI.io,hI.env,hI.nd⟩⟩
 ·show holds g' w (look ((d,.sl n k r.cs) :: σ.fr) d') _
  rw [show look ((d,.sl n k r.cs) :: σ.fr) d'=if d=d' then .sl n k r.cs else look σ.fr d' from rfl];by_cases hdd:d=d'
  ·subst hdd;rw [if_pos rfl]
   by_cases h0:r.cs.length=0
   ·rcases hv with hv | ⟨hk0,hv⟩
    ·exact ⟨_,_,hv,⟨hn,hk9⟩,hlen,.inl h0⟩
    ·exact ⟨none,0,by rw [hv,show n=0 by omega],by omega,hlen,.inl h0⟩
   ·obtain ⟨hka,arr,a1,a2,a3,a4⟩:=hrow.arr (by omega)
    have hv:=hv.resolve_right fun h=>hka h.1
    refine ⟨_,_,hv,⟨hn,hk9⟩,hlen,.inr ⟨_,0,rfl,.inr ⟨hka,rfl⟩,?_⟩⟩;have a5:=(a4.cln hcl).mono (g':=g'.pure) hle.pure fun _ _=>rfl
    refine atL.of a5 fun i x hx=>?_
    rw [List.getElem?_take] at hx
    split at hx
    ·simp only [World.cell?,a1,Nat.zero_add]
     simpa using hx
    ·cases hx
  ·rw [if_neg hdd];exact holds.mono hle (fun _ _=>rfl) _ _ (hf d')
 ·obtain ⟨b1,b2⟩:=key u q hu
  rcases hZ with hZ | ⟨hk',hZ⟩
  ·exact hI.free u q b2 hz hk hZ
  ·exact hI.apart u s q r b2 h2 b1 hk hk' hZ
 ·rcases hb with hb | ⟨hk,rfl⟩
  ·exact hI.zlt b hb
  ·exact hI.blk _ hA hk
 ·rcases hb with hb | ⟨hk,rfl⟩
  ·exact hI.znew b hb
  ·rcases hI.mine s r h2 hk with h | ⟨h,_⟩
   ·exact .inr h
   ·omega
theorem frz (d:Nat) {s v n k:Nat} {r:Row} {c:Code} {Q:Exit→AS→Prop} {σ:AS} (h1:look σ.fr d=.own s v n k) (h2:lookR σ.hp s=some r) (h3:r.ver=v∧s < 1000∧r.cs.length=n * k∧r.cs.all cln=true∧n≤9223372036854775807) (h:AW P X e c Q ⟨(d,.sl n k r.cs) :: σ.fr,dropR s σ.hp,σ.nx,σ.fz,σ.N⟩):AW P X e c Q σ:=fun a w hr=>h a w (hr.frz d h1 h2 h3)
end
end Am
section
variable (l:List It)
theorem itL_cln:(itL l).all Am.cln=true:=by
 induction l with
 | nil=>rfl
 | cons x l ih=>rw [itL_cons,List.all_append,ih];cases x;rfl
end
mutual
def Gt.vd (b:List UInt8):Gt→Prop
 | .mk mj lw a en n sub=>((mj < 2∨mj=7)→sub=[])∧(mj=5→sub.length % 2=0)∧(lw=31→2≤mj∧mj≤5)∧(∀ x,Gt.cn b (.mk mj lw a en n sub)=some x→x.valid=true)∧((mj=2∨mj=3)→lw=31→(Gt.strs b sub).length≤4096)∧(4≤mj→Gt.vds b sub)
def Gt.vds (b:List UInt8):List Gt→Prop
 | []=>True
 | t :: l=>Gt.vd b t∧Gt.vds b l
end
theorem Gt.vds_in {b:List UInt8}:∀ {l:List Gt} {i:Nat} (h:i < l.length),Gt.vds b l→(l[i]).vd b
 | t :: l,0,_,h=>h.1
 | t :: l,i + 1,hi,h=>by simpa using Gt.vds_in (i:=i) (by simpa using hi) h.2
mutual
theorem gi_vd {b:List UInt8} (hL:b.length≤4096):∀ {g lv p it ck:Nat} {t:Gt} {q i:Nat},gi b g lv p it ck=.ok (t,q,i)→it≤256→p≤b.length→lv≤8→t.bad b=false→t.vd b
 | 0,_,_,_,_,_,_,_,h,_,_,_,_=>by rw [gi] at h;cases h
 | g + 1,lv,p,it,ck,t,q,i,h,hi,hp,hlv,hbd=>by
   have hbd0:=gi_bd h hi hp;have hval:∀ x,t.cn b=some x→x.valid=true:=fun x hx=>by
    obtain ⟨a1,a2,a3⟩:=gi_cn hL h hi hp hlv hbd hx;unfold It.valid;rw [It.wf_up (show 8 - lv≤8 by omega) a1,decide_eq_true (show x.nodes≤256 by omega),decide_eq_true (show x.enc.length≤4096 by omega)]
    rfl
   rw [gi] at h;cases hh:hdP b p it ck with
   | error e=>rw [hh] at h;cases h
   | ok x=>
     obtain ⟨mj,lw,n,z,r⟩:=x;obtain ⟨h1,h2,h3,h4,h5,h6,h7,h8,h9,h310,_⟩:=hdP_ok hh;have h7:=h7 (by omega);rw [hh] at h;simp only at h
     split at h
     ·rename_i hm
      split at h
      ·rename_i hl
       split at h
       ·cases h
       ·rename_i l u j hg
        injection h with h;simp only [Prod.mk.injEq] at h
        obtain ⟨rfl,rfl,rfl⟩:=h;have h11:=gl_str hm hg (by omega) h7;exact ⟨fun h=>by omega,fun h=>by omega,fun _=>by omega,hval,fun _ _=>by omega,fun h=>by omega⟩
      ·rename_i hl
       split at h
       ·injection h with h;simp only [Prod.mk.injEq] at h
        obtain ⟨rfl,rfl,rfl⟩:=h;exact ⟨fun h=>rfl,fun _=>rfl,fun h=>absurd h hl,hval,fun _ h=>absurd h hl,fun _=>trivial⟩
       ·cases h
     ·rename_i hm
      split at h
      ·rename_i hm2
       injection h with h;simp only [Prod.mk.injEq] at h
       obtain ⟨rfl,rfl,rfl⟩:=h;exact ⟨fun _=>rfl,fun _=>rfl,fun h=>by have:=h310 h;omega,hval,fun h=>absurd h hm,fun _=>trivial⟩
      ·split at h
       ·cases h
       ·cases hg:gl b g (lv + 1) r (it + 1) (if lw=31 then none else some (cntP mj n)) 8 with
        | error e=>rw [hg] at h;cases h
        | ok y=>
          obtain ⟨l,u,j⟩:=y;rw [hg] at h;simp only at h
          split at h
          ·cases h
          ·rename_i hev
           injection h with h;simp only [Prod.mk.injEq] at h
           obtain ⟨rfl,rfl,rfl⟩:=h;have hbl:Gt.bads b l=false:=by
            rw [Gt.bad,Bool.or_eq_false_iff] at hbd;exact hbd.2
           refine ⟨fun h=>by omega,fun h5'=>?_,h310,hval,fun h=>absurd h hm,fun _=>gl_vd hL hg (by omega) h7 (by omega) hbl⟩;by_cases hl:lw=31
           ·have:¬ l.length % 2=1:=fun h=>hev ⟨hl,h5',h⟩
            omega
           ·rw [if_neg hl] at hg
            have h11:=gl_cnt hg;rw [h5'] at h11
            replace h11:l.length=2 * n:=h11
            omega
theorem gl_vd {b:List UInt8} (hL:b.length≤4096):∀ {g lv p it:Nat} {c:Option Nat} {ck:Nat} {l:List Gt} {q i:Nat},gl b g lv p it c ck=.ok (l,q,i)→it≤256→p≤b.length→lv≤8→Gt.bads b l=false→Gt.vds b l
 | 0,_,_,_,_,_,_,_,_,h,_,_,_,_=>by rw [gl] at h;cases h
 | g + 1,lv,p,it,c,ck,l,q,i,h,hi,hp,hlv,hbd=>by
   rw [gl] at h
   split at h
   ·injection h with h;simp only [Prod.mk.injEq] at h;obtain ⟨rfl,rfl,rfl⟩:=h;trivial
   ·split at h
    ·injection h with h;simp only [Prod.mk.injEq] at h;obtain ⟨rfl,rfl,rfl⟩:=h;trivial
    ·cases hg:gi b g lv p it ck with
     | error e=>rw [hg] at h;cases h
     | ok x=>
       obtain ⟨t,r,j⟩:=x;have h1:=gi_bd hg hi hp;rw [hg] at h;simp only at h;cases hl:gl b g lv r j (c.map (· - 1)) ck with
       | error e=>rw [hl] at h;cases h
       | ok y=>
         obtain ⟨m,u,k⟩:=y;rw [hl] at h;injection h with h;simp only [Prod.mk.injEq] at h;obtain ⟨rfl,rfl,rfl⟩:=h
         rw [Gt.bads,Bool.or_eq_false_iff] at hbd;exact ⟨gi_vd hL hg hi hp hlv hbd.1,gl_vd hL hl (by omega) (by omega) hlv hbd.2⟩
end
theorem valP_wv {lw n:Nat} (h24:24 < lw) (hl:lw < 28) (h25:lw=25→n < 65536) (h26:lw=26→n < 4294967296):valP lw n=if Fl.isNaN (wv lw n)=true then Fl.nan else wv lw n:=by
 unfold valP wv;rcases (show lw=25∨lw=26∨lw=27 by omega) with rfl | rfl | rfl
 ·rw [if_pos rfl,if_pos rfl]
  by_cases hN:Fl.nanH n=true
  ·rw [if_pos hN,if_pos (nan_wH (h25 rfl) hN).1]
  ·rw [if_neg hN,if_neg (by rw [(Fl.widenH_narrow (h25 rfl) (by simpa using hN)).2.2];exact Bool.false_ne_true)]
 ·simp only [show ¬ (26:Nat)=25 by omega,if_false,if_true]
  by_cases hN:Fl.nanS n=true
  ·rw [if_pos hN,if_pos (nan_wS (h26 rfl) hN).1]
  ·rw [if_neg hN,if_neg (by rw [(Fl.widenS_narrow (h26 rfl) (by simpa using hN)).2.2];exact Bool.false_ne_true)]
 ·simp only [show ¬ (27:Nat)=25 by omega,show ¬ (27:Nat)=26 by omega,if_false]
end Go.Proofs.YtelefkkkccilaaaDoor
namespace Go.Proofs.YtelefkkkccilaaaDoor
open Am Go.RowKit
set_option maxRecDepth 100000
def Gt.bm (b:List UInt8) (ls:List It.KV):List Gt→Option (List It.KV)
 | k :: v :: l=>match k.cn b with
   | none=>none
   | some x=>match v.cn b with
     | none=>none
     | some y=>if It.enc x ∈ ls.map It.key then none else Gt.bm b (It.insK ls (x,y)) l
 | _=>some ls
theorem Gt.bm_eq (b:List UInt8):∀ (l:List Gt) (ls:List It.KV),l.length % 2=0→(ls.map It.key).Nodup→Gt.bm b ls l=(match Gt.cns b l with
 | none=>none
 | some m=>if ((ls ++ It.pairsK m).map It.key).Nodup then some ((It.pairsK m).foldl It.insK ls) else none)
 | [],ls,_,h=>by
   rw [Gt.bm,Gt.cns]
   ·simp only [It.pairsK,List.append_nil,List.foldl_nil]
    rw [if_pos h]
   ·intro _ _ _ e;cases e
 | [_],_,h,_=>by simp at h
 | k :: v :: l,ls,h,hn=>by
   rw [Gt.bm,Gt.cns,Gt.cns];cases hk:k.cn b with
   | none=>rfl
   | some x=>
     simp only;cases hv:v.cn b with
     | none=>simp only
     | some y=>
       simp only;have hp:=It.insK_perm ls (x,y);by_cases hd:It.enc x ∈ ls.map It.key
       ·rw [if_pos hd]
        cases hc:Gt.cns b l with
        | none=>rfl
        | some m=>
          simp only;rw [if_neg];intro hN;rw [List.map_append,List.nodup_append] at hN;obtain ⟨_,_,h3⟩:=hN;exact h3 _ hd (It.enc x) (by simp [It.pairsK,It.key]) rfl
       ·rw [if_neg hd]
        have hn2:((It.insK ls (x,y)).map It.key).Nodup:=by
         rw [(hp.map It.key).nodup_iff];simp only [List.map_cons,List.nodup_cons];exact ⟨hd,hn⟩
        rw [Gt.bm_eq b l _ (by simp only [List.length_cons] at h;omega) hn2];cases hc:Gt.cns b l with
        | none=>rfl
        | some m=>
          simp only;have hiff:((It.insK ls (x,y) ++ It.pairsK m).map It.key).Nodup↔((ls ++ It.pairsK (x :: y :: m)).map It.key).Nodup:=by
           have h1:(It.insK ls (x,y) ++ It.pairsK m).Perm (ls ++ It.pairsK (x :: y :: m)):=by
            show (It.insK ls (x,y) ++ It.pairsK m).Perm (ls ++ (x,y) :: It.pairsK m)
            exact (hp.append_right _).trans List.perm_middle.symm
           exact (h1.map It.key).nodup_iff
          by_cases hN:((ls ++ It.pairsK (x :: y :: m)).map It.key).Nodup
          ·rw [if_pos hN,if_pos (hiff.2 hN)];rfl
          ·rw [if_neg hN,if_neg fun h=>hN (hiff.1 h)]
theorem Gt.bm_map (b:List UInt8) (l:List Gt) (h:l.length % 2=0):(match Gt.cns b l with
 | none=>none
 | some m=>(It.mapC m).map (It.mk 5 0 [] ·))=(Gt.bm b [] l).map fun ls=>It.mk 5 0 [] (It.flatK ls):=by
 rw [Gt.bm_eq b l [] h (by simp)];cases Gt.cns b l with
 | none=>rfl
 | some m=>
   simp only [List.nil_append];unfold It.mapC;by_cases hN:((It.pairsK m).map It.key).Nodup
   ·rw [if_pos hN,if_pos ((It.asc_sort _).2 hN)];rfl
   ·rw [if_neg hN,if_neg fun h=>hN ((It.asc_sort _).1 h)];rfl
theorem It.At.zero_in {l:List It.KV} {p:It.KV} (ha:It.At l p 0):¬ It.key p ∈ l.map It.key:=by
 intro h;obtain ⟨q,hq,e⟩:=List.mem_map.1 h;have:=ha.gt q (by simpa using hq);rw [e,It.cmpB_self] at this;omega
theorem It.At.key_in {l:List It.KV} {p:It.KV} {k:Nat} (hi:It.Ins l false) (ha:It.At l p (k + 1)) (hk:k < l.length) (hc:¬ 0 < It.cmpB (It.key l[k]) (It.key p)):It.key p ∈ l.map It.key↔It.key l[k]=It.key p:=by
 constructor
 ·intro h
  obtain ⟨q,hq,e⟩:=List.mem_map.1 h;obtain ⟨i,hil,rfl⟩:=List.mem_iff_getElem.1 hq;have h1:¬ k + 1≤i:=fun hle=>by
   have:=ha.gt l[i] (by rw [List.mem_drop_iff_getElem];exact ⟨i - (k + 1),by omega,by congr 1;omega⟩);rw [e,It.cmpB_self] at this;omega
  by_cases h2:i=k
  ·subst h2;exact e
  ·have h3:It.kle l[i] l[k]:=(List.pairwise_iff_getElem.1 hi.sorted) i k (by omega) hk (by omega)
   have h4:It.cmpB (It.key l[i]) (It.key l[k])≤0:=h3;rw [e] at h4;have h5:=It.cmpB_swap (It.key p) (It.key l[k]);exact It.cmpB_eq (by omega)
 ·intro h
  rw [← h];exact List.mem_map.2 ⟨_,List.getElem_mem hk,rfl⟩
theorem It.Ins.add {l:List It.KV} {p:It.KV} (h:It.Ins l false) (hp:¬ It.key p ∈ l.map It.key):It.Ins (It.insK l p) false:=h.next false ⟨fun h=>(by cases h),fun h=>absurd h hp⟩
theorem It.Ins.nd {l:List It.KV} (h:It.Ins l false):(l.map It.key).Nodup:=Classical.byContradiction fun h2=>by have:=h.twice.2 h2;cases this
def BdN (I:It→SV→Prop):Option It→SV→List Row→Prop
 | none,r,rows=>r=.tup [.agg [iv 0,uv 0,.v (.slice none 0 0),.v (.slice none 0 0)],bov false]∧rows=[]
 | some x,r,rows=>∃ a,I x a∧r=.tup [a,bov true]∧rows=[]
theorem AC.wkb {X:Ev} {f:FuncId} {args:List SV} {rows:List Row} {R:Option It} (h:AC Tryd.prog X f args rows (BdN itN R)):AC Tryd.prog X f args rows (BdN isI R):=by
 refine h.weak fun r rows hr=>?_
 cases R with
 | none=>exact ⟨r,hr,fun _ _ _ _ h=>h⟩
 | some x=>
   obtain ⟨a,ha,rfl,rfl⟩:=hr;refine ⟨_,⟨_,rfl,rfl,rfl⟩,fun g w v nx hv=>?_⟩;obtain ⟨vs,e,hv⟩:=hv
   match vs,hv with
   | [v1,v2],hv=>exact ⟨_,e,by have:=hv.1;rw [ha.ren] at this;exact ha.holds this,hv.2.1,trivial⟩
theorem BdN.err {I:It→SV→Prop} {R:Option It} (h:R=none):BdN I R (.tup [.agg [iv 0,uv 0,.v (.slice none 0 0),.v (.slice none 0 0)],bov false]) []:=by rw [h];exact ⟨rfl,rfl⟩
theorem BdN.ok {I:It→SV→Prop} {R:Option It} {x:It} {a:SV} (h:R=some x) (ha:I x a):BdN I R (.tup [a,bov true]) []:=by rw [h];exact ⟨a,ha,rfl,rfl⟩
structure BdA where
 u:Nat
 k:Int
 N:Nat
 o:Option (Nat × List UInt8)
def bdJ (b:List UInt8) (nx:Nat) (T:List SV):BdA→AS
 | ⟨u,k,N,none⟩=>⟨[(0,bsl b),(3,.ptr 3 nx 0),(4,.ptr 4 (nx + 1) 0),(6,.ptr 6 (nx + 1 + 1) 0)],[(3,⟨nx,57,7,T⟩),(4,⟨nx + 1,31,4,[iv 0,uv 0,.v (.slice none 0 0),.v (.slice none 0 0)]⟩),(6,⟨nx + 1 + 1,31,4,[iv k,uv N,.v (.slice none 0 0),.v (.slice none 0 0)]⟩)],u,[],190⟩
 | ⟨u,k,N,some (ver,L)⟩=>⟨[(0,bsl b),(3,.ptr 3 nx 0),(4,.ptr 4 (nx + 1) 0),(6,.ptr 6 (nx + 1 + 1) 0)],[(3,⟨nx,57,7,T⟩),(4,⟨nx + 1,31,4,[iv 0,uv 0,.v (.slice none 0 0),.v (.slice none 0 0)]⟩),(6,⟨nx + 1 + 1,31,4,[iv k,uv N,.own 71 ver L.length 1,.v (.slice none 0 0)]⟩),(71,⟨ver,5,1,bys L⟩)],u,[],190⟩
@[go_sem] theorem bdJ_n (b:List UInt8) (nx:Nat) (T:List SV) (u:Nat) (k:Int) (N:Nat):bdJ b nx T ⟨u,k,N,none⟩=⟨[(0,bsl b),(3,.ptr 3 nx 0),(4,.ptr 4 (nx + 1) 0),(6,.ptr 6 (nx + 1 + 1) 0)],[(3,⟨nx,57,7,T⟩),(4,⟨nx + 1,31,4,[iv 0,uv 0,.v (.slice none 0 0),.v (.slice none 0 0)]⟩),(6,⟨nx + 1 + 1,31,4,[iv k,uv N,.v (.slice none 0 0),.v (.slice none 0 0)]⟩)],u,[],190⟩:=rfl
@[go_sem] theorem bdJ_s (b:List UInt8) (nx:Nat) (T:List SV) (u:Nat) (k:Int) (N ver:Nat) (L:List UInt8):bdJ b nx T ⟨u,k,N,some (ver,L)⟩=⟨[(0,bsl b),(3,.ptr 3 nx 0),(4,.ptr 4 (nx + 1) 0),(6,.ptr 6 (nx + 1 + 1) 0)],[(3,⟨nx,57,7,T⟩),(4,⟨nx + 1,31,4,[iv 0,uv 0,.v (.slice none 0 0),.v (.slice none 0 0)]⟩),(6,⟨nx + 1 + 1,31,4,[iv k,uv N,.own 71 ver L.length 1,.v (.slice none 0 0)]⟩),(71,⟨ver,5,1,bys L⟩)],u,[],190⟩:=rfl
def BdP (mj n:Nat) (sub:List Gt) (R:Option It) (y:BdA):Prop:=((mj < 4∨mj=7)→R=some (.mk y.k y.N (match y.o with | none=>[] | some z=>z.2) [])∧sub=[])∧(4≤mj→mj≤6→y.k=mj∧y.N=(if mj=6 then n else 0)∧y.o=none)
structure StA where
 u:Nat
 i:Nat
 o:Option (Nat × List UInt8)
def StA.L (y:StA):List UInt8:=match y.o with | none=>[] | some z=>z.2
def stJ (b:List UInt8) (nx:Nat) (T:List SV) (mj:Nat) (m:Nat) (S:SV):StA→AS
 | ⟨u,i,none⟩=>⟨[(0,bsl b),(3,.ptr 3 nx 0),(4,.ptr 4 (nx + 1) 0),(6,.ptr 6 (nx + 1 + 1) 0),(34,S),(35,iv m),(36,iv i)],[(3,⟨nx,57,7,T⟩),(4,⟨nx + 1,31,4,[iv 0,uv 0,.v (.slice none 0 0),.v (.slice none 0 0)]⟩),(6,⟨nx + 1 + 1,31,4,[iv mj,uv 0,.v (.slice none 0 0),.v (.slice none 0 0)]⟩)],u,[],190⟩
 | ⟨u,i,some (ver,L)⟩=>⟨[(0,bsl b),(3,.ptr 3 nx 0),(4,.ptr 4 (nx + 1) 0),(6,.ptr 6 (nx + 1 + 1) 0),(34,S),(35,iv m),(36,iv i)],[(3,⟨nx,57,7,T⟩),(4,⟨nx + 1,31,4,[iv 0,uv 0,.v (.slice none 0 0),.v (.slice none 0 0)]⟩),(6,⟨nx + 1 + 1,31,4,[iv mj,uv 0,.own 42 ver L.length 1,.v (.slice none 0 0)]⟩),(42,⟨ver,5,1,bys L⟩)],u,[],190⟩
@[go_sem] theorem stJ_n (b:List UInt8) (nx:Nat) (T:List SV) (mj m:Nat) (S:SV) (u i:Nat):stJ b nx T mj m S ⟨u,i,none⟩=⟨[(0,bsl b),(3,.ptr 3 nx 0),(4,.ptr 4 (nx + 1) 0),(6,.ptr 6 (nx + 1 + 1) 0),(34,S),(35,iv m),(36,iv i)],[(3,⟨nx,57,7,T⟩),(4,⟨nx + 1,31,4,[iv 0,uv 0,.v (.slice none 0 0),.v (.slice none 0 0)]⟩),(6,⟨nx + 1 + 1,31,4,[iv mj,uv 0,.v (.slice none 0 0),.v (.slice none 0 0)]⟩)],u,[],190⟩:=rfl
@[go_sem] theorem stJ_s (b:List UInt8) (nx:Nat) (T:List SV) (mj m:Nat) (S:SV) (u i ver:Nat) (L:List UInt8):stJ b nx T mj m S ⟨u,i,some (ver,L)⟩=⟨[(0,bsl b),(3,.ptr 3 nx 0),(4,.ptr 4 (nx + 1) 0),(6,.ptr 6 (nx + 1 + 1) 0),(34,S),(35,iv m),(36,iv i)],[(3,⟨nx,57,7,T⟩),(4,⟨nx + 1,31,4,[iv 0,uv 0,.v (.slice none 0 0),.v (.slice none 0 0)]⟩),(6,⟨nx + 1 + 1,31,4,[iv mj,uv 0,.own 42 ver L.length 1,.v (.slice none 0 0)]⟩),(42,⟨ver,5,1,bys L⟩)],u,[],190⟩:=rfl
def ChP (b:List UInt8) (sub:List Gt) (y:StA):Prop:=y.i≤sub.length∧y.L ++ Gt.strs b (sub.drop y.i)=Gt.strs b sub
theorem Gt.strs_cons (b:List UInt8) (t:Gt) (l:List Gt):Gt.strs b (t :: l)=(b.drop (t.en - t.n)).take t.n ++ Gt.strs b l:=by cases t;rfl
theorem itL_fl (l:List It):∀ s ∈ itL l,flat s=true:=List.all_eq_true.1 (itL_flat l)
theorem ins_cells {ls:List It.KV} {x y:It} {kk m i:Nat} (hI:It.Ins ls false) (ha:It.At ls (x,y) kk) (hl:∀ q ∈ ls.take kk,It.cmpB (It.key q) (It.key (x,y))≤0) (hm:m=2 * kk) (hi:i=2 * ls.length):(itL (It.flatK ls)).take (m * 4) ++ (itc x ++ (itc y ++ ((itL (It.flatK ls)).drop (m * 4)).take ((i - m) * 4)))=itL (It.flatK (It.insK ls (x,y))):=by
 have hk:=ha.le;rw [hI.step ha hl,It.flatK_append,It.flatK,← itL_app2,itL_cons,itL_cons,itL_take,hm,It.flatK_take];congr 3
 rw [List.take_of_length_le (by rw [List.length_drop,itL_len,It.flatK_length];omega)];have h1:itL (It.flatK ls)=itL (It.flatK (ls.take kk)) ++ itL (It.flatK (ls.drop kk)):=by rw [itL_app2,← It.flatK_append,List.take_append_drop]
 rw [h1];have h2:(itL (It.flatK (ls.take kk))).length=2 * kk * 4:=by rw [itL_len,It.flatK_length,List.length_take];omega
 rw [← h2,List.drop_left]
theorem ins_len {ls:List It.KV} {p:It.KV}:(It.insK ls p).length=ls.length + 1:=by rw [(It.insK_perm ls p).length_eq];rfl
theorem ins_val {ls:List It.KV} {x y:It} (h:∀ p ∈ ls,p.1.valid=true) (hx:x.valid=true):∀ a c:It,(a,c) ∈ It.insK ls (x,y)→a.valid=true:=fun a c hac=>by
 rcases It.insK_mem hac with e | e
 ·cases e;exact hx
 ·exact h _ e
theorem Gt.inb_c {L:Nat} {t:Gt} (h:t.inb L) (hm:t.mj=2∨t.mj=3) (hl:t.lw≠31):t.n≤t.en∧t.en≤L:=by
 cases t;exact ⟨((h.1 hm).1 hl).1,((h.1 hm).1 hl).2.1⟩
set_option maxHeartbeats 8000000 in
theorem build_c (b:List UInt8) (hb:b.length≤4096) (d:Nat):∀ t:Gt,t.nd≤d→t.ok→t.inb b.length→t.vd b→AC Tryd.prog XU 27 [bsl b,.agg (gtc t)] [] (BdN isI (t.cn b)):=by
 induction d with
 | zero=>intro t h;cases t;simp [Gt.nd] at h
 | succ d ih=>
   rintro ⟨mj,lw,bg,en,n,sub⟩ hd ht hin hvd;have IH:=dh ih;clear ih;obtain ⟨h1,h2,h3,h4,h5,h6,h7⟩:=Gt.okf ht
   replace h1:mj < 8:=h1
   replace h2:lw < 28∨lw=31:=h2
   replace h3:n < 18446744073709551616:=h3
   replace h6:sub.length≤256:=h6
   replace h7:Gt.oks sub:=h7
   obtain ⟨hs,hin2⟩:=hin;obtain ⟨v1,v2,v3,v4,v5,v6⟩:=hvd;have HV:=dh (show lw=25→n < 65536 from h4);have HV2:=dh (show lw=26→n < 4294967296 from h5);have HR:=dh (Gt.cn.eq_1 b mj lw bg en n sub);generalize hRR:Gt.cn b (.mk mj lw bg en n sub)=R at *;have HT0:=dh ht;clear hRR h4 h5 ht;refine AC.wkb ?_;refine AC.bodyW false Tryd.func27 rfl Tryd.call27 Tryd.ntmps27 (by simp) fun e nx=>?_
   go_simp
   have hgt:gtc (.mk mj lw bg en n sub)=[iv mj,iv lw,iv bg,iv en,uv (if lw=31 then (31:Nat) else n:Nat),bov (decide (lw=31)),.sl sub.length 7 (gtL sub)]:=rfl;rw [hgt];have HNN:=dh (show lw≠31→(if lw=31 then (31:Nat) else n:Nat)=n from fun h=>if_neg h);have HOP:=dh (show decide (lw=31)=true↔lw=31 by simp);generalize (if lw=31 then (31:Nat) else n:Nat)=nn at *;generalize decide (lw=31)=op at *;clear hgt;refine sqc ?_;go_simp;refine sqc ?_;go_simp;refine ct (α:=BdA) (BdP mj n sub R) (bdJ b nx [iv mj,iv lw,iv bg,iv en,uv nn,bov op,.sl sub.length 7 (gtL sub)]) [] (gw ?_) ?_
   ·go_simp
    refine ifd (fun m2=>?_) (fun m2=>?_) <;> go_simp
    ·obtain rfl:nn=n:=HNN.out fun h=>by have:=v3 h;omega
     have HE:=dh (show R=some (.mk mj nn [] []) by rw [HR.out,if_neg (by omega),Gt.it,if_neg (by omega),if_pos (by omega)]);refine ⟨⟨nx + 20,_,_,none⟩,⟨fun _=>⟨HE.out,v1 (by omega)⟩,fun h=>by omega⟩,?_⟩;go_simp
    refine gdd (fun m4=>?_) (fun m4=>?_) <;> go_simp
    ·have hm23:mj=2∨mj=3:=by omega
     refine ifk (fun ho=>?_) (fun ho=>?_) <;> go_simp
     ·obtain rfl:lw=31:=HOP.out.1 ho
      have HC:=dh ((hs hm23).2 rfl);have HT:=dh (v5 hm23 rfl);have HE:=dh (show R=some (.mk mj 0 (Gt.strs b sub) []) by rw [HR.out,if_neg (by omega),Gt.it,if_pos hm23,if_pos rfl]);clear v1 v2 v3 v4 v5 v6 hs HR HV HV2 HNN HOP;refine lp (α:=StA) (fun y=>Hid (ChP b sub y)) (stJ b nx [iv mj,iv 31,iv bg,iv en,uv nn,bov true,.sl sub.length 7 (gtL sub)] mj sub.length (.sl sub.length 7 (gtL sub))) (fun y=>sub.length - y.i) [] [] ⟨nx + 20,0,none⟩ ?_ ?_
      ·go_simp
       exact dh ⟨by simp,by simp [StA.L]⟩
      ·rintro ⟨u,i,o⟩ hy
       obtain ⟨hi,hL⟩:=hy.out
       replace hi:i≤sub.length:=hi
       clear hy;have hL4:(StA.L ⟨u,i,o⟩).length≤4096:=by
        have:=congrArg List.length hL;rw [List.length_append] at this;have:=HT.out;omega
       have HL:=dh hL;clear hL;refine gw ?_;cases o with
       | none=>
         go_simp
         refine ifd (fun h=>?_) (fun h=>?_) <;> go_simp
         ·have hil:i < sub.length:=by omega
          obtain ⟨c1,c2⟩:=HC.out sub[i] (List.getElem_mem hil);obtain ⟨c3,c4⟩:=Gt.inb_c (Gt.inbs_in hil hin2) (by omega) c2;have c2:¬ sub[i].lw=31:=c2;have HL:=dh (HL.out.symm.trans (by rw [List.drop_eq_getElem_cons hil,Gt.strs_cons]));have hn1:sub[i].n < 18446744073709551616:=by omega
          refine rg hmx (by kernel_rfl) ?_;go_simp
          generalize sub[i].n=n1 at *;generalize sub[i].en=e1 at *
          go_bits
          rw [show e1 - (e1 - n1)=n1 by omega];have hM:(List.take n1 (List.drop (e1 - n1) b)).length=n1:=by simp only [List.length_take,List.length_drop];omega
          generalize List.take n1 (List.drop (e1 - n1) b)=M at *;subst hM;refine ⟨⟨by omega,by omega⟩,⟨by rw [show Tryd.t5.bytes=1 from rfl];omega,by omega⟩,by kernel_rfl,by kernel_rfl,⟨u + 20,i + 1,some (u + 1 + 1 + 1,M)⟩,dh ⟨hil,?_⟩,by show sub.length - (i + 1) < sub.length - i;omega,?_⟩
          ·show M ++ _=_;rw [HL.out];rfl
          ·go_simp
         ·have hE:=HL.out
          rw [show i=sub.length by omega,List.drop_length] at hE;exact BdN.ok (x:=.mk mj 0 [] []) (by rw [HE.out,← hE];rfl) ⟨_,_,rfl,.inr ⟨rfl,rfl,rfl⟩,.inr ⟨rfl,rfl,rfl⟩⟩
       | some z=>
         obtain ⟨ver,L⟩:=z;go_simp
         refine ifd (fun h=>?_) (fun h=>?_) <;> go_simp
         ·have hil:i < sub.length:=by omega
          obtain ⟨c1,c2⟩:=HC.out sub[i] (List.getElem_mem hil);obtain ⟨c3,c4⟩:=Gt.inb_c (Gt.inbs_in hil hin2) (by omega) c2;have c2:¬ sub[i].lw=31:=c2;have HL:=dh (HL.out.symm.trans (by rw [List.drop_eq_getElem_cons hil,Gt.strs_cons]));have hn1:sub[i].n < 18446744073709551616:=by omega
          refine rg hmx (by kernel_rfl) ?_;go_simp
          generalize sub[i].n=n1 at *;generalize sub[i].en=e1 at *
          go_bits
          rw [show e1 - (e1 - n1)=n1 by omega];have hM:(List.take n1 (List.drop (e1 - n1) b)).length=n1:=by simp only [List.length_take,List.length_drop];omega
          generalize List.take n1 (List.drop (e1 - n1) b)=M at *;subst hM;have hM4:L.length + M.length≤4096:=by
           have h1:=congrArg List.length HL.out;rw [List.length_append,List.length_append] at h1;have h2:=HT.out
           replace h1:_=L.length + _:=h1
           omega
          refine ⟨⟨by rw [show Tryd.t5.bytes=1 from rfl];omega,by omega⟩,⟨by omega,by omega⟩,⟨by rw [show Tryd.t5.bytes=1 from rfl];omega,by omega⟩,by kernel_rfl,by kernel_rfl,⟨u + 20,i + 1,some (u + 1 + 1 + 1,L ++ M)⟩,dh ⟨hil,?_⟩,by show sub.length - (i + 1) < sub.length - i;omega,?_⟩
          ·show (L ++ M) ++ _=_;rw [HL.out,List.append_assoc];rfl
          ·go_simp
         ·have hE:=HL.out
          rw [show i=sub.length by omega,List.drop_length] at hE;exact BdN.ok (x:=.mk mj 0 L []) (by rw [HE.out,← hE];show some (It.mk mj 0 (L ++ []) [])=_;rw [List.append_nil]) ⟨_,_,rfl,.inl rfl,.inr ⟨rfl,rfl,rfl⟩⟩
     ·have hl:lw≠31:=fun h=>by rw [HOP.out.2 h] at ho;cases ho
      obtain rfl:nn=n:=HNN.out hl;obtain ⟨e1,e2,rfl⟩:=(hs hm23).1 hl
      go_bits
      rw [show en - (en - nn)=nn by omega];have hL:(List.take nn (List.drop (en - nn) b)).length=nn:=by simp only [List.length_take,List.length_drop];omega
      have HE:=dh (show R=some (.mk mj 0 ((b.drop (en - nn)).take nn) []) by rw [HR.out,if_neg (by omega),Gt.it,if_pos hm23,if_neg hl]);generalize List.take nn (List.drop (en - nn) b)=L at *;subst hL;refine ⟨by omega,by rw [show Tryd.t5.bytes=1 from rfl];omega,⟨nx + 20,_,_,some (nx + 1 + 1 + 1 + 1,L)⟩,⟨fun _=>⟨HE.out,rfl⟩,fun h=>by omega⟩,?_⟩;go_simp
    refine ifd (fun m6=>?_) (fun m6=>?_) <;> go_simp
    ·obtain rfl:mj=6:=by omega
     obtain rfl:nn=n:=HNN.out fun h=>by have:=v3 h;omega
     refine ⟨⟨nx + 20,_,_,none⟩,⟨fun h=>by omega,fun _ _=>⟨rfl,rfl,rfl⟩⟩,?_⟩;go_simp
    refine gdd (fun m7=>?_) (fun m7=>?_) <;> go_simp
    ·obtain rfl:mj=7:=by omega
     have hl:lw≠31:=fun h=>by have:=v3 h;omega
     obtain rfl:nn=n:=HNN.out hl;have HE0:=dh (show R=some (if 25≤lw then .mk 8 (valP lw nn) [] [] else .mk 7 nn [] []) by rw [HR.out,if_neg (by omega),Gt.it,if_neg (by omega),if_neg (by omega),if_pos rfl]);refine ifd (fun m8=>?_) (fun m8=>?_) <;> go_simp
     ·have HE:=dh (show R=some (.mk 8 (if Fl.isNaN (wv lw nn)=true then Fl.nan else wv lw nn) [] []) by rw [HE0.out,if_pos (by omega),valP_wv (by omega) (by omega) HV.out HV2.out])
      have hv:wv lw nn < 18446744073709551616:=wv_lt HT0.out;refine cl [] [] (value_c (X:=XU) 7 _ _ lw nn _ _ _ (by omega) h3 HV.out HV2.out) (by go_simp) ?_;rintro r rows ⟨rfl,rfl⟩;generalize wv lw nn=v at *;go_simp
      refine cl [] [] (isnan_c v hv) (by go_simp) ?_;rintro r rows ⟨rfl,rfl⟩;go_simp
      refine ifk (fun hN=>?_) (fun hN=>?_) <;> go_simp
      ·refine ⟨⟨nx + 20,8,Fl.nan,none⟩,⟨fun _=>⟨by rw [HE.out,if_pos hN],rfl⟩,fun h=>by omega⟩,?_⟩
       go_simp
       rfl
      ·refine ⟨⟨nx + 20,8,v,none⟩,⟨fun _=>⟨by rw [HE.out,if_neg (by rw [hN];exact Bool.false_ne_true)],rfl⟩,fun h=>by omega⟩,?_⟩
       go_simp
     ·have HE:=dh (show R=some (.mk 7 nn [] []) by rw [HE0.out,if_neg (by omega)])
      refine ⟨⟨nx + 20,7,nn,none⟩,⟨fun _=>⟨HE.out,rfl⟩,fun h=>by omega⟩,?_⟩;go_simp
    ·refine ⟨⟨nx + 20,_,_,none⟩,⟨fun h=>by omega,fun _ _=>⟨rfl,by rw [if_neg (by omega)],rfl⟩⟩,?_⟩
     go_simp
   ·rintro ⟨u,k,N,o⟩ ⟨hy1,hy2⟩
    replace hy2:4≤mj→mj≤6→k=mj∧N=(if mj=6 then n else 0)∧o=none:=hy2
    clear hs HV HV2 HNN HOP HT0 v1 v3 v4 v5;refine gw ?_;by_cases hlf:mj < 4∨mj=7
    ·obtain ⟨hR,rfl⟩:=hy1 hlf
     have HE:=dh hR;clear hR hy1 hy2 HR v2 v6 hin2 h6 h7 IH;cases o with
     | none=>
       go_simp
       refine lp (α:=Nat) (fun _=>True) (fun u=>⟨[(0,bsl b),(3,.ptr 3 nx 0),(4,.ptr 4 (nx + 1) 0),(6,.ptr 6 (nx + 1 + 1) 0),(9,.v (.slice none 0 0)),(10,iv 0)],[(3,⟨nx,57,7,[iv mj,iv lw,iv bg,iv en,uv nn,bov op,.sl 0 7 (gtL [])]⟩),(4,⟨nx + 1,31,4,[iv 0,uv 0,.v (.slice none 0 0),.v (.slice none 0 0)]⟩),(6,⟨nx + 1 + 1,31,4,[iv k,uv N,.v (.slice none 0 0),.v (.slice none 0 0)]⟩)],u,[],190⟩) (fun _=>0) [] [] u ?_ ?_
       ·go_simp
       ·rintro u' -
        refine gw ?_;go_simp
        exact BdN.ok (x:=.mk k N [] []) HE.out ⟨_,_,rfl,.inr ⟨rfl,rfl,rfl⟩,.inr ⟨rfl,rfl,rfl⟩⟩
     | some z=>
       obtain ⟨ver,L⟩:=z;go_simp
       refine lp (α:=Nat) (fun _=>True) (fun u=>⟨[(0,bsl b),(3,.ptr 3 nx 0),(4,.ptr 4 (nx + 1) 0),(6,.ptr 6 (nx + 1 + 1) 0),(9,.v (.slice none 0 0)),(10,iv 0)],[(3,⟨nx,57,7,[iv mj,iv lw,iv bg,iv en,uv nn,bov op,.sl 0 7 (gtL [])]⟩),(4,⟨nx + 1,31,4,[iv 0,uv 0,.v (.slice none 0 0),.v (.slice none 0 0)]⟩),(6,⟨nx + 1 + 1,31,4,[iv k,uv N,.own 71 ver L.length 1,.v (.slice none 0 0)]⟩),(71,⟨ver,5,1,bys L⟩)],u,[],190⟩) (fun _=>0) [] [] u ?_ ?_
       ·go_simp
       ·rintro u' -
        refine gw ?_;go_simp
        exact BdN.ok (x:=.mk k N L []) HE.out ⟨_,_,rfl,.inl rfl,.inr ⟨rfl,rfl,rfl⟩⟩
    ·obtain ⟨rfl,hN,rfl⟩:=hy2 (by omega) (by omega)
     clear hy1 hy2;have hdk:Gt.nds sub≤d:=by simp only [Gt.nd] at hd;omega
     have hvk:=v6 (by omega);clear hd v6;have HC:∀ i (h:i < sub.length),AC Tryd.prog XU 27 [bsl b,.agg (gtc sub[i])] [] (BdN isI (sub[i].cn b)):=fun i h=>IH.out sub[i] (by have:=Gt.nds_in h;omega) (Gt.oks_in h h7) (Gt.inbs_in h hin2) (Gt.vds_in h hvk)
     have HC:=dh HC;clear IH;by_cases h5:mj=5
     ·subst h5
      have hev:sub.length % 2=0:=v2 rfl;have HR0:=dh (show R=(Gt.bm b [] (sub.drop 0)).map fun ls=>It.mk 5 0 [] (It.flatK ls) by
       rw [HR.out,if_pos (by omega),List.drop_zero,← Gt.bm_map b sub hev]
       rfl)
      obtain rfl:N=0:=hN;clear HR v2;go_simp
      refine lp (α:=Nat × Nat × Nat × List It.KV) (fun x=>x.2.2.1≤sub.length∧Hid (x.2.2.1=2 * x.2.2.2.length)∧(∀ p ∈ x.2.2.2,p.1.valid=true)∧Hid (It.Ins x.2.2.2 false)∧Hid (R=(Gt.bm b x.2.2.2 (sub.drop x.2.2.1)).map fun ls=>It.mk 5 0 [] (It.flatK ls))) (fun x=>⟨[(0,bsl b),(3,.ptr 3 nx 0),(4,.ptr 4 (nx + 1) 0),(6,.ptr 6 (nx + 1 + 1) 0),(9,.own 900 x.2.1 x.2.2.1 4),(10,iv x.2.2.1)],[(3,⟨nx,57,7,[iv 5,iv lw,iv bg,iv en,uv nn,bov op,.sl sub.length 7 (gtL sub)]⟩),(4,⟨nx + 1,31,4,[iv 0,uv 0,.v (.slice none 0 0),.v (.slice none 0 0)]⟩),(6,⟨nx + 1 + 1,31,4,[iv 5,uv 0,.v (.slice none 0 0),.v (.slice none 0 0)]⟩),(900,⟨x.2.1,31,4,itL (It.flatK x.2.2.2)⟩)],x.1,[],190⟩) (fun x=>sub.length - x.2.2.1) [(9,900,31,4)] [(9,900,31,4)] (u + 1,u,0,[]) ?_ ?_
      ·go_simp
       exact ⟨⟨dh trivial,dh It.Ins.nil,dh HR0.out⟩,rfl⟩
      ·rintro ⟨u',v,i,ls⟩ ⟨hi,hil2,hva,HI,hRi⟩
       replace hi:i≤sub.length:=hi
       replace hil2:Hid (i=2 * ls.length):=hil2
       replace hva:∀ p ∈ ls,p.1.valid=true:=hva
       replace HI:Hid (It.Ins ls false):=HI
       replace hRi:Hid (R=(Gt.bm b ls (sub.drop i)).map fun ls=>It.mk 5 0 [] (It.flatK ls)):=hRi
       have HFL:=dh (show (It.flatK ls).length=i by rw [It.flatK_length];exact hil2.out.symm);have HVA:=dh hva;clear hva
       dsimp only
       refine gw ?_;go_simp
       refine ifd (fun h=>?_) (fun h=>?_) <;> go_simp
       ·have hil:i < sub.length:=by omega
        have hil3:i + 1 < sub.length:=by have:=hil2.out;omega
        have hRi:=dh (hRi.out.trans (by rw [List.drop_eq_getElem_cons hil,List.drop_eq_getElem_cons hil3,Gt.bm]));have hC:=HC.out _ hil;have hC2:=HC.out _ hil3;have HV1:=dh (show ∀ x,sub[i].cn b=some x→x.valid=true from (by have:=Gt.vds_in hil hvk;revert this;generalize sub[i]=t;cases t;exact fun h=>h.2.2.2.1));go_simp
        generalize sub[i].cn b=Y at *;generalize sub[i + 1].cn b=Z at *;refine cl [] [] hC (by go_simp) ?_;intro r rows hr;cases Y with
        | none=>
          obtain ⟨rfl,rfl⟩:=hr;go_simp
          exact BdN.err hRi.out
        | some x=>
          obtain ⟨a,rfl,rfl,rfl⟩:=hr;have hxv:=HV1.out x rfl;go_simp;go_bits
          rw [gtL_sub _ _ hil3];refine ⟨by omega,by simp,?_⟩;go_simp
          refine cl [] [] hC2 (by go_simp) ?_;intro r rows hr;cases Z with
          | none=>
            obtain ⟨rfl,rfl⟩:=hr;go_simp
            exact BdN.err hRi.out
          | some y=>
            obtain ⟨a,rfl,rfl,rfl⟩:=hr;go_simp
            refine frz 9 (s:=900) (v:=v) (n:=i) (k:=4) rfl rfl ⟨rfl,by decide,by rw [itL_len,HFL.out],itL_cln _,by omega⟩ ?_;go_simp
            refine lp (α:=Nat × Nat × Nat) (fun z=>z.2.2≤ls.length∧Hid (z.2.1=2 * z.2.2)∧z.2.1≤i∧Hid (It.At ls (x,y) z.2.2)) (fun z=>⟨[(0,bsl b),(3,.ptr 3 nx 0),(4,.ptr 4 (nx + 1) 0),(6,.ptr 6 (nx + 1 + 1) 0),(9,.sl i 4 (itL (It.flatK ls))),(10,.v (.int .i64 ((i:Int) + 1))),(11,.ptr 11 u' 0),(13,.ptr 13 (u' + 1 + 1) 0),(14,iv z.2.1)],[(3,⟨nx,57,7,[iv 5,iv lw,iv bg,iv en,uv nn,bov op,.sl sub.length 7 (gtL sub)]⟩),(4,⟨nx + 1,31,4,[iv 0,uv 0,.v (.slice none 0 0),.v (.slice none 0 0)]⟩),(6,⟨nx + 1 + 1,31,4,[iv 5,uv 0,.v (.slice none 0 0),.v (.slice none 0 0)]⟩),(11,⟨u',31,4,itc x⟩),(13,⟨u' + 1 + 1,31,4,itc y⟩)],z.1,[],190⟩) (fun z=>z.2.2) [] [] (u' + 1 + 1 + 1 + 1,i,ls.length) ?_ ?_
            ·go_simp
             exact dh (It.At.start _ _)
            ·rintro ⟨w,m,kk⟩ ⟨hk,hm,hmi,hat⟩
             replace hk:kk≤ls.length:=hk
             replace hm:Hid (m=2 * kk):=hm
             replace hmi:m≤i:=hmi
             replace hat:Hid (It.At ls (x,y) kk):=hat
             dsimp only
             have hxe:x.enc.length≤4096:=by unfold It.valid at hxv;simp only [Bool.and_eq_true,decide_eq_true_eq] at hxv;exact hxv.2
             have hxf:x.fits:=It.valid_fits hxv;have hxg:=(It.valid_gsz hxv).2;have hRX:=AC.frzB (raw_c (X:=XU) _ x (Nat.le_refl _) hxf (by omega));refine gw ?_;go_simp
             refine rgp [0,1,2,3,4,5,6,7,9,8,10,11,12,13] hmx (by kernel_rfl) ?_;go_simp
             refine gdd (fun hc=>?_) (fun hc=>?_)
             ·obtain ⟨q,rfl⟩:∃ q,kk=q + 1:=⟨kk - 1,by have:=hm.out;omega⟩
              have hq:q < ls.length:=by omega
              have hm2:2≤m:=by have:=hm.out;omega
              have hfq:(It.flatK ls)[m - 2]'(by rw [HFL.out];omega)=ls[q].1:=by
               have h1:=(It.flatK_get ls q hq).1;rw [show 2 * q=m - 2 by have:=hm.out;omega,List.getElem?_eq_getElem (by rw [HFL.out];omega)] at h1;exact Option.some.inj h1
              have hqv:=HVA.out ls[q] (List.getElem_mem hq);have hqe:ls[q].1.enc.length≤4096:=by unfold It.valid at hqv;simp only [Bool.and_eq_true,decide_eq_true_eq] at hqv;exact hqv.2
              have hRQ:=AC.frzB (raw_c (X:=XU) _ ls[q].1 (Nat.le_refl _) (It.valid_fits hqv) (by omega));go_simp;go_bits
              rw [itL_sub _ _ (show m - 2 < (It.flatK ls).length by rw [HFL.out];omega),hfq];refine ⟨by omega,by simp,?_⟩;go_simp
              refine cl [] [] hRQ (by go_simp) ?_;rintro r rows ⟨rfl,rfl⟩;go_simp
              refine cl [] [] hRX (by go_simp) ?_;rintro r rows ⟨rfl,rfl⟩;go_simp
              have hcp:=rcmp_c XU ls[q].1.enc x.enc (by omega) (by omega);refine cl [] [] hcp (by go_simp) ?_;rintro r rows ⟨rfl,rfl⟩;go_simp
              refine ifd (fun hgt=>?_) (fun hle=>?_) <;> go_simp
              ·go_bits
               exact ⟨_,m - 2,q,⟨by omega,dh (by have:=hm.out;omega),by omega,dh (hat.out.down hq hgt)⟩,by omega,Nat.le_refl _,by omega⟩
              ·have hSM:=same_c (X:=XU) _ ls[q].1 x (Nat.le_refl _) (by have:=(It.valid_gsz hqv).2;omega) (by omega)
               refine rg hmx (by kernel_rfl) ?_;go_simp;go_bits
               rw [itL_sub _ _ (show m - 2 < (It.flatK ls).length by rw [HFL.out];omega),hfq];refine ⟨by omega,by simp,?_⟩;go_simp
               have hsi:It.sm ls[q].1 x=true↔It.enc x ∈ ls.map It.key:=by
                rw [It.sm_iff];refine Iff.trans ?_ (hat.out.key_in HI.out hq hle).symm;exact ⟨fun h=>by show It.enc ls[q].1=It.enc x;rw [h],fun h=>It.enc_inj hqv hxv h⟩
               generalize It.sm ls[q].1 x=S at *;refine cl [] [] hSM (by go_simp) ?_;rintro r rows ⟨rfl,rfl⟩;go_simp
               refine ifk (fun hS=>?_) (fun hS=>?_) <;> go_simp
               ·exact BdN.err (by rw [hRi.out];simp only [if_pos (hsi.1 hS)];rfl)
               ·have hni:¬ It.enc x ∈ ls.map It.key:=fun h=>by rw [hsi.2 h] at hS;cases hS
                have HCE:=dh (ins_cells HI.out hat.out (HI.out.low hq hle) hm.out hil2.out);refine rg hmx (by kernel_rfl) ?_;go_simp;go_bits
                refine ⟨⟨fun s hs=>itL_fl _ s (List.mem_of_mem_take hs),by rw [show Tryd.t31.bytes=64 from rfl];omega,by omega⟩,⟨by rw [HFL.out];omega,by rw [show Tryd.t31.bytes=64 from rfl];omega,by omega⟩,by kernel_rfl,⟨by rw [HFL.out];omega,fun s hs=>itL_fl _ s (List.mem_of_mem_drop (List.mem_of_mem_take hs)),by rw [show Tryd.t31.bytes=64 from rfl];omega,by omega⟩,by kernel_rfl,w + 20,_,i + 1 + 1,It.insK ls (x,y),⟨by omega,dh (by rw [ins_len];have:=hil2.out;omega),ins_val HVA.out hxv,dh (HI.out.add hni),dh ?_⟩,by omega,by omega,⟨⟨rfl,by omega⟩,by omega⟩,rfl,HCE.out⟩;rw [hRi.out];simp only [if_neg hni]
             ·have hk0:kk=0:=by have:=hm.out;omega
              subst hk0;have hni:¬ It.enc x ∈ ls.map It.key:=hat.out.zero_in;have hm0:m=0:=by omega
              subst hm0;go_simp
              refine rg hmx (by kernel_rfl) ?_;go_simp
              have HCE:=dh (ins_cells HI.out hat.out (fun q hq=>by simp at hq) rfl hil2.out);refine rg hmx (by kernel_rfl) ?_;go_simp;go_bits
              refine ⟨by decide,by kernel_rfl,⟨fun s hs=>itL_fl _ s (List.mem_of_mem_take hs),by rw [show Tryd.t31.bytes=64 from rfl];omega,by omega⟩,by kernel_rfl,w + 20,_,i + 1 + 1,It.insK ls (x,y),⟨by omega,dh (by rw [ins_len];have:=hil2.out;omega),ins_val HVA.out hxv,dh (HI.out.add hni),dh ?_⟩,by omega,by omega,⟨⟨rfl,by omega⟩,by omega⟩,rfl,?_⟩
              ·rw [hRi.out];simp only [if_neg hni]
              ·have:=HCE.out
               simpa using this
       ·have hE:=hRi.out
        rw [show i=sub.length by omega,List.drop_length,Gt.bm] at hE
        ·rw [← HFL.out,List.take_of_length_le (by rw [itL_len];omega),if_pos (Nat.le_refl _)]
         exact BdN.ok (x:=.mk 5 0 [] (It.flatK ls)) hE ⟨_,_,rfl,.inr ⟨rfl,rfl,rfl⟩,.inl rfl⟩
        ·intro _ _ _ e;cases e
     ·have HR0:=dh (show R=(Gt.cns b (sub.drop 0)).map fun l=>It.mk mj N [] ([] ++ l) by
       rw [HR.out,if_pos (by omega),List.drop_zero,hN];cases Gt.cns b sub with
       | none=>rfl
       | some l=>simp only [if_neg h5];rfl)
      clear HR hN v2;go_simp
      refine lp (α:=Nat × Nat × List It) (fun x=>x.2.2.length≤sub.length∧Hid (R=(Gt.cns b (sub.drop x.2.2.length)).map fun l=>It.mk mj N [] (x.2.2 ++ l))) (fun x=>⟨[(0,bsl b),(3,.ptr 3 nx 0),(4,.ptr 4 (nx + 1) 0),(6,.ptr 6 (nx + 1 + 1) 0),(9,.own 900 x.2.1 x.2.2.length 4),(10,iv x.2.2.length)],[(3,⟨nx,57,7,[iv mj,iv lw,iv bg,iv en,uv nn,bov op,.sl sub.length 7 (gtL sub)]⟩),(4,⟨nx + 1,31,4,[iv 0,uv 0,.v (.slice none 0 0),.v (.slice none 0 0)]⟩),(6,⟨nx + 1 + 1,31,4,[iv mj,uv N,.v (.slice none 0 0),.v (.slice none 0 0)]⟩),(900,⟨x.2.1,31,4,itL x.2.2⟩)],x.1,[],190⟩) (fun x=>sub.length - x.2.2.length) [(9,900,31,4)] [(9,900,31,4)] (u + 1,u,[]) ?_ ?_
      ·go_simp
       exact dh HR0.out
      ·rintro ⟨u',v,es⟩ ⟨hi,hRi⟩
       have h5':¬ (mj:Int)=5:=by omega
       replace hi:es.length≤sub.length:=hi
       replace hRi:Hid (R=(Gt.cns b (sub.drop es.length)).map fun l=>It.mk mj N [] (es ++ l)):=hRi
       dsimp only
       refine gw ?_;go_simp
       refine ifd (fun h=>?_) (fun h=>?_) <;> go_simp
       ·have hil:es.length < sub.length:=by omega
        have hRi:=dh (hRi.out.trans (by rw [List.drop_eq_getElem_cons hil,Gt.cns]));have hC:=HC.out es.length hil;go_simp
        generalize sub[es.length].cn b=Y at *;refine cl [] [] hC (by go_simp) ?_;intro r rows hr;cases Y with
        | none=>
          obtain ⟨rfl,rfl⟩:=hr;go_simp
          exact BdN.err hRi.out
        | some y=>
          obtain ⟨a,rfl,rfl,rfl⟩:=hr;go_simp
          go_bits
          refine ⟨⟨by rw [show Tryd.t31.bytes=64 from rfl];omega,by omega⟩,u' + 20,_,es ++ [y],⟨by simp;omega,dh ?_⟩,by simp;omega,by omega,⟨⟨rfl,by simp⟩,by simp⟩,rfl,rfl⟩;rw [hRi.out,List.length_append];simp only [List.length_cons,List.length_nil,Nat.zero_add];cases Gt.cns b (sub.drop (es.length + 1)) with
          | none=>rfl
          | some l=>simp
       ·have hE:=hRi.out
        rw [show es.length=sub.length by omega,List.drop_length,Gt.cns] at hE;rw [show (itL es).take (es.length * 4)=itL es from List.take_of_length_le (by rw [itL_len];omega)];exact BdN.ok (x:=.mk mj N [] es) (by rw [hE];simp) ⟨_,_,rfl,.inr ⟨rfl,rfl,rfl⟩,.inl rfl⟩
def cnP (b:List UInt8):Except Nat It:=if 4096 < b.length then .error 8 else match readP b with
 | .error e=>.error e
 | .ok (t,p,_)=>if p < b.length then .error 9 else if t.bad b=true then .error 5 else match t.cn b with
   | none=>.error 7
   | some x=>.ok x
def IcN (I:It→SV→Prop):Except Nat It→SV→List Row→Prop
 | .error e,r,rows=>r=.tup [.agg [iv 0,uv 0,.v (.slice none 0 0),.v (.slice none 0 0)],iv e]∧rows=[]
 | .ok x,r,rows=>∃ a,I x a∧r=.tup [a,iv 0]∧rows=[]
theorem AC.wkc {X:Ev} {f:FuncId} {args:List SV} {rows:List Row} {R:Except Nat It} (h:AC Tryd.prog X f args rows (IcN itN R)):AC Tryd.prog X f args rows (IcN isI R):=by
 refine h.weak fun r rows hr=>?_
 cases R with
 | error e=>exact ⟨r,hr,fun _ _ _ _ h=>h⟩
 | ok x=>
   obtain ⟨a,ha,rfl,rfl⟩:=hr;refine ⟨_,⟨_,rfl,rfl,rfl⟩,fun g w v nx hv=>?_⟩;obtain ⟨vs,e,hv⟩:=hv
   match vs,hv with
   | [v1,v2],hv=>exact ⟨_,e,by have:=hv.1;rw [ha.ren] at this;exact ha.holds this,hv.2.1,trivial⟩
theorem IcN.err {I:It→SV→Prop} {R:Except Nat It} {e:Nat} (h:R=.error e):IcN I R (.tup [.agg [iv 0,uv 0,.v (.slice none 0 0),.v (.slice none 0 0)],iv e]) []:=by rw [h];exact ⟨rfl,rfl⟩
theorem IcN.ok {I:It→SV→Prop} {R:Except Nat It} {x:It} {a:SV} (h:R=.ok x) (ha:I x a):IcN I R (.tup [a,iv 0]) []:=by rw [h];exact ⟨a,ha,rfl,rfl⟩
theorem cnP_ok {b:List UInt8} {x:It} (h:cnP b=.ok x):x.valid=true:=by
 unfold cnP at h
 split at h
 ·cases h
 ·rename_i hl
  split at h
  ·cases h
  ·rename_i t p it hr
   split at h
   ·cases h
   ·split at h
    ·cases h
    ·rename_i hb
     split at h
     ·cases h
     ·rename_i y hy
      cases h
      unfold readP at hr;rw [List.take_of_length_le (by omega)] at hr;have hv:=gi_vd (by omega) hr (by omega) (by omega) (by omega) (by simpa using hb)
      revert hv hy
      cases t
      exact fun hy hv=>hv.2.2.2.1 _ hy
theorem cnP_err {b:List UInt8} {e:Nat} (h:cnP b=.error e):e≠0:=by
 unfold cnP at h
 split at h
 ·cases h;decide
 ·split at h
  ·rename_i e' hr
   cases h
   exact gi_err hr
  ·split at h
   ·cases h;decide
   ·split at h
    ·cases h;decide
    ·split at h
     ·cases h;decide
     ·cases h
set_option maxHeartbeats 4000000 in
theorem ritm47_c (b:List UInt8) (hb:b.length≤1000000000):AC Tryd.prog XU 10 [bsl b] [] (IcN isI (cnP b)):=by
 have HR:=dh (cnP.eq_1 b);have HX:=dh (fun x (h:cnP b=.ok x)=>cnP_ok h);generalize cnP b=R at *;refine AC.wkc ?_;refine AC.bodyW false Tryd.func10 rfl Tryd.call10 Tryd.ntmps10 (by simp) fun e nx=>gw ?_
 go_simp
 refine ifd (fun h=>?_) (fun h=>?_) <;> go_simp
 ·exact IcN.err (e:=8) (by rw [HR.out,if_pos (by omega)])
 ·have hl:b.length≤4096:=by omega
  have HR:=dh (HR.out.trans (if_neg (by omega)));have hrr:=rread_c b (by omega);refine cl [] [] hrr (by go_simp) ?_;rintro r rows hI;cases hR:readP b with
  | error e'=>
    rw [hR] at hI;have hne:e'≠0:=gi_err hR;have HE:=dh (HR.out.trans (by rw [hR]));clear hR HR;obtain ⟨⟨a1,a2,a3,a4,f,g2,n2,cs2,rfl⟩,rfl⟩:=hI;go_simp
    exact IcN.err HE.out
  | ok y=>
    obtain ⟨t,p2,it2⟩:=y;rw [hR] at hI;have HE:=dh (HR.out.trans (by rw [hR]));have hen:t.en=p2:=gi_en hR;have hok:t.ok:=gi_ok hR (by omega) (by omega);unfold readP at hR;rw [List.take_of_length_le (by omega)] at hR;have hinb:=gi_inb hR (by omega) (by omega);have HV:=dh (fun hbad=>gi_vd hl hR (by omega) (by omega) (by omega) hbad);have HTX:=dh (texts_c b (by omega) t.nd t (Nat.le_refl _) hok hinb);have HBD:=dh (fun hv=>build_c b hl t.nd t (Nat.le_refl _) hok hinb hv);clear hR HR;obtain ⟨rfl,rfl⟩:=hI;subst hen;simp only at HE;go_simp
    refine ifd (fun h=>?_) (fun h=>?_) <;> go_simp
    ·exact IcN.err (e:=9) (by rw [HE.out,if_pos (by omega)])
    ·have HE:=dh (HE.out.trans (if_neg (by omega)))
     have htx:=HTX.out;generalize hB:t.bad b=B at *;refine cl [] [] htx (by go_simp) ?_;rintro r rows ⟨rfl,rfl⟩;go_simp
     cases B with
     | true=>
       go_simp
       exact IcN.err (e:=5) HE.out
     | false=>
       have HE:=dh (HE.out.trans (if_neg Bool.false_ne_true));have hbd:=HBD.out (HV.out rfl);go_simp
       generalize t.cn b=Y at *;refine cl [] [] hbd (by go_simp) ?_;intro r rows hr;cases Y with
       | none=>
         obtain ⟨rfl,rfl⟩:=hr;go_simp
         exact IcN.err (e:=7) HE.out
       | some x=>
         obtain ⟨a,rfl,rfl,rfl⟩:=hr;have hxv:=HX.out x HE.out;have hva:=rvalid_c x (It.valid_fits hxv);rw [hxv] at hva;go_simp
         refine cl [] [] hva (by go_simp) ?_;rintro r rows ⟨rfl,rfl⟩;go_simp
         exact IcN.ok HE.out ⟨_,_,rfl,.inl rfl,.inl rfl⟩
def CaC (R:Except Nat It) (r:SV) (rows:List Row):Prop:=match R with
 | .error e=>r=.tup [.v (.slice none 0 0),iv e]∧rows=[]
 | .ok x=>r=.tup [bsl x.enc,iv 0]∧rows=[]
section
variable {Z Z':Nat→Prop} {w w':World}
theorem TWi.len:∀ {x:It} {vs:List Value} {S:List Nat},TWi Z w x vs S→vs.length=4
 | .mk k n b ks,vs,S,h=>by
   unfold TWi at h;obtain ⟨ba,bc,ia,ic,rfl,_⟩:=h
   rfl
theorem TWl.len:∀ {l:List It} {vs:List Value} {S:List Nat},TWl Z w l vs S→vs.length=4 * l.length
 | [],vs,S,h=>by unfold TWl at h;rw [h.1];rfl
 | x :: xs,vs,S,h=>by
   unfold TWl at h;obtain ⟨v1,vs2,S1,S2,rfl,rfl,h1,h2⟩:=h;rw [List.length_append,h1.len,TWl.len h2,List.length_cons];omega
theorem TWl.app:∀ {l m:List It} {vs:List Value} {S:List Nat},TWl Z w (l ++ m) vs S↔∃ v1 v2 S1 S2,vs=v1 ++ v2∧S=S1 ++ S2∧TWl Z w l v1 S1∧TWl Z w m v2 S2
 | [],m,vs,S=>by
   constructor
   ·intro h
    exact ⟨[],vs,[],S,rfl,rfl,by unfold TWl;exact ⟨rfl,rfl⟩,h⟩
   ·rintro ⟨v1,v2,S1,S2,rfl,rfl,h1,h2⟩
    unfold TWl at h1;obtain ⟨rfl,rfl⟩:=h1;exact h2
 | x :: l,m,vs,S=>by
   rw [List.cons_append];constructor
   ·intro h
    unfold TWl at h;obtain ⟨v1,vs2,S1,S2,rfl,rfl,h1,h2⟩:=h;obtain ⟨v3,v4,S3,S4,rfl,rfl,h3,h4⟩:=TWl.app.1 h2;refine ⟨v1 ++ v3,v4,S1 ++ S3,S4,(List.append_assoc ..).symm,(List.append_assoc ..).symm,?_,h4⟩;unfold TWl;exact ⟨v1,v3,S1,S3,rfl,rfl,h1,h3⟩
   ·rintro ⟨v1,v2,S1,S2,rfl,rfl,h1,h2⟩
    unfold TWl at h1;obtain ⟨v3,v4,S3,S4,rfl,rfl,h3,h4⟩:=h1;unfold TWl;exact ⟨v3,v4 ++ v2,S3,S4 ++ S2,List.append_assoc ..,List.append_assoc ..,h3,TWl.app.2 ⟨v4,v2,S4,S2,rfl,rfl,h4,h2⟩⟩
theorem TWl.one {x:It} {vs:List Value} {S:List Nat}:TWl Z w [x] vs S↔TWi Z w x vs S:=by
 constructor
 ·intro h
  unfold TWl at h;obtain ⟨v1,v2,S1,S2,rfl,rfl,h1,h2⟩:=h;unfold TWl at h2;obtain ⟨rfl,rfl⟩:=h2;rw [List.append_nil,List.append_nil];exact h1
 ·intro h
  unfold TWl;exact ⟨vs,[],S,[],(List.append_nil _).symm,(List.append_nil _).symm,h,by unfold TWl;exact ⟨rfl,rfl⟩⟩
def U8 (w w':World):Prop:=∀ b o v,w.cell? ⟨b,o,none⟩=some (.int .u8 v)→w'.cell? ⟨b,o,none⟩=some (.int .u8 v)
theorem U8.refl (w:World):U8 w w:=fun _ _ _ h=>h
theorem U8.trans {u:World} (h:U8 w w') (k:U8 w' u):U8 w u:=fun b o v e=>k b o v (h b o v e)
theorem TWb.keep {b:List UInt8} {a:Option Addr} (hu:U8 w w') (h:TWb Z w b a):TWb Z w' b a:=
 h.imp id fun ⟨d,o,e,hd,hc⟩=>⟨d,o,e,hd,fun i hi=>hu _ _ _ (hc i hi)⟩
mutual
theorem TWi.keep (hu:U8 w w'):∀ (x:It) {Z:Nat→Prop} {vs:List Value} {S:List Nat},(∀ b ∈ S,w'.heap[b]?=w.heap[b]?)→TWi Z w x vs S→TWi Z w' x vs S
 | .mk k n b ks,Z,vs,S,hS,h=>by
   unfold TWi at h ⊢;obtain ⟨ba,bc,ia,ic,e,h1,h2,h3,h4⟩:=h;refine ⟨ba,bc,ia,ic,e,h1,h2.keep hu,h3,h4.imp id fun ⟨d,arr,S2,e1,hd,e2,e3,e4,e5⟩=>?_⟩;subst e5;exact ⟨d,arr,S2,e1,hd,(hS d (by simp)).trans e2,e3,TWl.keep hu ks (fun b hb=>hS b (by simp [hb])) e4,rfl⟩
theorem TWl.keep (hu:U8 w w'):∀ (l:List It) {Z:Nat→Prop} {vs:List Value} {S:List Nat},(∀ b ∈ S,w'.heap[b]?=w.heap[b]?)→TWl Z w l vs S→TWl Z w' l vs S
 | [],Z,vs,S,hS,h=>by unfold TWl at h ⊢;exact h
 | x :: xs,Z,vs,S,hS,h=>by
   unfold TWl at h ⊢;obtain ⟨v1,vs2,S1,S2,e1,e2,h1,h2⟩:=h;subst e2;exact ⟨v1,vs2,S1,S2,e1,rfl,TWi.keep hu x (fun b hb=>hS b (by simp [hb])) h1,TWl.keep hu xs (fun b hb=>hS b (by simp [hb])) h2⟩
end
theorem TWb.br {b:List UInt8} {a:Option Addr} (h:TWb Z w b a) (hl:b.length≤9223372036854775807):BR Z w a b.length b:=by
 refine ⟨rfl,hl,fun i hi=>?_⟩;rcases h with rfl | ⟨d,o,rfl,hd,hc⟩
 ·simp at hi
 ·exact ⟨d,o,rfl,hd,hc i hi⟩
mutual
theorem ir_tw:∀ (x:It) {vs:List Value} {S:List Nat},TWi Z w x vs S→x.fits→∃ A:Ad,vs=[.int .i64 x.kind,.int .u64 (x.num:Int),.slice A.ab A.nb A.cb,.slice A.ai A.ni A.ci]∧IR Z w x A
 | .mk k n b ks,vs,S,h,hf=>by
   unfold TWi at h;obtain ⟨ba,bc,ia,ic,rfl,h1,h2,h3,h4⟩:=h;refine ⟨⟨ba,b.length,bc,ia,ks.length,ic⟩,rfl,?_⟩;unfold IR;refine ⟨hf.1,⟨h2.br (by omega),h1⟩,⟨rfl,h3⟩,?_⟩;rcases h4 with ⟨rfl,_⟩ | ⟨d,arr,S2,rfl,hd,e2,e3,e4,_⟩
   ·unfold KR;trivial
   ·refine kr_tw ks (TWl.mono (fun _ h=>h.1) (fun _ _=>rfl) _ _ _ e4) hf.2 hd 0 fun j v hj=>?_
    rw [List.getElem?_take] at hj
    split at hj
    ·simp only [World.cell?,e2]
     simpa using hj
    ·cases hj
theorem kr_tw:∀ (l:List It) {vs:List Value} {S:List Nat} {d:Nat},TWl Z w l vs S→It.fitsL l→Z d→∀ (i:Nat),(∀ j v,vs[j]?=some v→w.cell? ⟨d,i * 4 + j,none⟩=some v)→KR Z w l (some ⟨d,0,none⟩) i
 | [],vs,S,d,h,hf,hd,i,hc=>by unfold KR;trivial
 | x :: xs,vs,S,d,h,hf,hd,i,hc=>by
   unfold TWl at h;obtain ⟨v1,v2,S1,S2,rfl,rfl,h1,h2⟩:=h;obtain ⟨A,rfl,hI⟩:=ir_tw x h1 hf.1;unfold KR;refine ⟨⟨d,0,A,rfl,hd,⟨?_,?_,?_,?_⟩,hI⟩,kr_tw xs h2 hf.2 hd (i + 1) fun j v hj=>?_⟩
   ·have:=hc 0 _ rfl;rw [show 0 + i * 4=i * 4 + 0 by omega];exact this
   ·have:=hc 1 _ rfl;rw [show 0 + i * 4 + 1=i * 4 + 1 by omega];exact this
   ·have:=hc 2 _ rfl;rw [show 0 + i * 4 + 2=i * 4 + 2 by omega];exact this
   ·have:=hc 3 _ rfl;rw [show 0 + i * 4 + 3=i * 4 + 3 by omega];exact this
   ·have:=hc (4 + j) v (by rw [show 4 + j=j + 4 by omega];exact hj)
    rw [show (i + 1) * 4 + j=i * 4 + (4 + j) by omega];exact this
end
theorem hi_tw {x:It} {vs:List Value} {S:List Nat} {g:Cx} (h:TWi Z w x vs S) (hf:x.fits) (hg:∀ b,Z b→b < w.heap.size→g.Z b):holds g w (itS x) (.agg vs.toArray):=by
 obtain ⟨A,rfl,hI⟩:=ir_tw x h hf;exact hi_of hg hI
end
structure FrS (S:List Nat) (w w':World):Prop where
 size:w.heap.size≤w'.heap.size
 keep:∀ b,b < w.heap.size→b ∉ S→w'.heap[b]?=w.heap[b]?
 u8:U8 w w'
 io:w'.os=w.os∧w'.tape=w.tape∧w'.output=w.output
theorem FrS.refl (S:List Nat) (w:World):FrS S w w:=⟨Nat.le_refl _,fun _ _ _=>rfl,.refl w,rfl,rfl,rfl⟩
theorem FrS.trans {S1 S2 S:List Nat} {u v w:World} (h:FrS S1 u v) (k:FrS S2 v w) (h1:∀ b ∈ S1,b ∈ S) (h2:∀ b ∈ S2,b ∈ S):FrS S u w:=
 ⟨Nat.le_trans h.size k.size,fun b hb hS=>(k.keep b (Nat.lt_of_lt_of_le hb h.size) fun hm=>hS (h2 b hm)).trans (h.keep b hb fun hm=>hS (h1 b hm)),h.u8.trans k.u8,k.io.1.trans h.io.1,k.io.2.1.trans h.io.2.1,k.io.2.2.trans h.io.2.2⟩
theorem FrS.env {S:List Nat} {u v:World} (h:FrS S u v) (hS:∀ b ∈ S,2≤b) (hE:Env u):Env v:=XU.st u v h.size hE fun b hb=>h.keep b (XU.lt u b hE hb) fun hm=>by
 have:=hS b hm;rcases hb with rfl | rfl <;> omega
theorem FrS.of {w w':World} (hs:w.heap.size≤w'.heap.size) (hk:∀ b,b < w.heap.size→w'.heap[b]?=w.heap[b]?) (hio:w'.os=w.os∧w'.tape=w.tape∧w'.output=w.output) (S:List Nat):FrS S w w':=
 ⟨hs,fun b hb _=>hk b hb,fun b o v h=>(cell_eq (hk b (cell_lt h)) o).trans h,hio⟩
theorem FrS.mono {S S':List Nat} {w w':World} (h:FrS S w w') (hS:∀ b ∈ S,b ∈ S'):FrS S' w w':=⟨h.size,fun b hb hm=>h.keep b hb fun hx=>hm (hS b hx),h.u8,h.io⟩
end Go.Proofs.YtelefkkkccilaaaDoor
