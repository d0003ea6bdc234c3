/- Joined texts. -/
import Derived.Test.YtelefkkkccilaaaDoorJC
import Derived.Test.YtelefkkkccilaaaDoorJD
import Derived.Test.YtelefkkkccilaaaDoorJG
import Derived.Test.YtelefkkkccilaaaDoorJE
import Derived.Test.YtelefkkkccilaaaDoorLA
import Derived.Test.YtelefkkkccilaaaDoorJF
set_option linter.unusedVariables false
set_option linter.unusedSimpArgs false
namespace Go.Proofs.YtelefkkkccilaaaDoor
open Am Go.RowKit
set_option maxRecDepth 100000
def XL (LB:Nat):Ev:=⟨fun w=>Env w∧LB≤w.heap.size,XU.D,fun w w' hs h k=>⟨XU.st w w' hs h.1 k,Nat.le_trans h.2 hs⟩,fun w b h hb=>XU.lt w b h.1 hb⟩
theorem AC.up {P:Program} {f:FuncId} {args:List SV} {rows:List Row} {C:SV→List Row→Prop} (LB:Nat) (h:AC P XU f args rows C):AC P (XL LB) f args rows C:=
 ⟨fun g w vals nx hE a b c d e i=>(h.out g w vals nx hE.1 a b c d e i).mono fun en w' H=>by
  obtain ⟨v,r,rows',g',h1,h2,h3,h4,h5,h6,h7,h8,h9,h10,h11,h12,h13⟩:=H;exact ⟨v,r,rows',g',h1,h2,h3,h4,h5,h6,h7,h8,h9,h10,h11,h12,h13,Nat.le_trans hE.2 h10⟩⟩
def TWb (Z:Nat→Prop) (w:World) (b:List UInt8) (a:Option Addr):Prop:=b=[]∨∃ d o,a=some ⟨d,o,none⟩∧Z d∧∀ (i:Nat) (h:i < b.length),w.cell? ⟨d,o + i,none⟩=some (.int .u8 (b[i].toNat:Int))
mutual
def TWi (Z:Nat→Prop) (w:World):It→List Value→List Nat→Prop
 | .mk k n b ks,vs,S=>∃ ba bc ia ic,vs=[.int .i64 k,.int .u64 (n:Int),.slice ba b.length bc,.slice ia ks.length ic]∧(b.length≤bc∧bc≤9223372036854775807)∧TWb Z w b ba∧(ks.length≤ic∧ic≤9223372036854775807)∧
   ((ks=[]∧S=[])∨∃ d arr S2,ia=some ⟨d,0,none⟩∧Z d∧w.heap[d]?=some (.cells arr 31 (0,0))∧arr.size=ic * 4∧TWl (fun b=>Z b∧b≠d) w ks (arr.toList.take (ks.length * 4)) S2∧S=d :: S2)
def TWl (Z:Nat→Prop) (w:World):List It→List Value→List Nat→Prop
 | [],vs,S=>vs=[]∧S=[]
 | x :: xs,vs,S=>∃ v1 vs2 S1 S2,vs=v1 ++ vs2∧S=S1 ++ S2∧TWi Z w x v1 S1∧TWl Z w xs vs2 S2
end
def TWk (Z:Nat→Prop) (w:World) (ks:List It) (ia:Option Addr) (ic:Nat) (S:List Nat):Prop:=
 (ks=[]∧S=[])∨∃ d arr S2,ia=some ⟨d,0,none⟩∧Z d∧w.heap[d]?=some (.cells arr 31 (0,0))∧arr.size=ic * 4∧TWl (fun b=>Z b∧b≠d) w ks (arr.toList.take (ks.length * 4)) S2∧S=d :: S2
section
variable {Z Z':Nat→Prop} {w w':World}
theorem TWb.mono {b:List UInt8} {a:Option Addr} (hz:∀ b,Z b→Z' b) (hw:∀ b,Z b→w'.heap[b]?=w.heap[b]?) (h:TWb Z w b a):TWb Z' w' b a:=
 h.imp id fun ⟨d,o,e,hd,hc⟩=>⟨d,o,e,hz d hd,fun i hi=>(cell_eq (hw d hd) _).trans (hc i hi)⟩
mutual
theorem TWi.mono0:∀ (x:It) (Z Z':Nat→Prop) (vs:List Value) (S:List Nat),(∀ b,Z b→Z' b)→(∀ b,Z b→w'.heap[b]?=w.heap[b]?)→TWi Z w x vs S→TWi Z' w' x vs S
 | .mk k n b ks,Z,Z',vs,S,hz,hw,h=>by
   unfold TWi at h ⊢;obtain ⟨ba,bc,ia,ic,e,h1,h2,h3,h4⟩:=h;exact ⟨ba,bc,ia,ic,e,h1,h2.mono hz hw,h3,h4.imp id fun ⟨d,arr,S2,e1,hd,e2,e3,e4,e5⟩=>⟨d,arr,S2,e1,hz d hd,(hw d hd).trans e2,e3,TWl.mono0 ks _ _ _ _ (fun b h=>⟨hz b h.1,h.2⟩) (fun b h=>hw b h.1) e4,e5⟩⟩
theorem TWl.mono0:∀ (l:List It) (Z Z':Nat→Prop) (vs:List Value) (S:List Nat),(∀ b,Z b→Z' b)→(∀ b,Z b→w'.heap[b]?=w.heap[b]?)→TWl Z w l vs S→TWl Z' w' l vs S
 | [],Z,Z',vs,S,hz,hw,h=>by unfold TWl at h ⊢;exact h
 | x :: xs,Z,Z',vs,S,hz,hw,h=>by
   unfold TWl at h ⊢;obtain ⟨v1,vs2,S1,S2,e1,e2,h1,h2⟩:=h;exact ⟨v1,vs2,S1,S2,e1,e2,TWi.mono0 x _ _ _ _ hz hw h1,TWl.mono0 xs _ _ _ _ hz hw h2⟩
end
theorem TWi.mono (hz:∀ b,Z b→Z' b) (hw:∀ b,Z b→w'.heap[b]?=w.heap[b]?) (x:It) (vs:List Value) (S:List Nat) (h:TWi Z w x vs S):TWi Z' w' x vs S:=TWi.mono0 x _ _ vs S hz hw h
theorem TWl.mono (hz:∀ b,Z b→Z' b) (hw:∀ b,Z b→w'.heap[b]?=w.heap[b]?) (l:List It) (vs:List Value) (S:List Nat) (h:TWl Z w l vs S):TWl Z' w' l vs S:=TWl.mono0 l _ _ vs S hz hw h
mutual
theorem TWi.z:∀ (x:It) {Z:Nat→Prop} {vs:List Value} {S:List Nat},TWi Z w x vs S→∀ b ∈ S,Z b
 | .mk k n b ks,Z,vs,S,h,c,hc=>by
   unfold TWi at h;obtain ⟨ba,bc,ia,ic,e,h1,h2,h3,h4 | ⟨d,arr,S2,e1,hd,e2,e3,e4,e5⟩⟩:=h
   ·rw [h4.2] at hc;cases hc
   ·subst e5
    rcases List.mem_cons.1 hc with rfl | hc
    ·exact hd
    ·exact (TWl.z ks e4 c hc).1
theorem TWl.z:∀ (l:List It) {Z:Nat→Prop} {vs:List Value} {S:List Nat},TWl Z w l vs S→∀ b ∈ S,Z b
 | [],Z,vs,S,h,c,hc=>by unfold TWl at h;rw [h.2] at hc;cases hc
 | x :: xs,Z,vs,S,h,c,hc=>by
   unfold TWl at h;obtain ⟨v1,vs2,S1,S2,e1,e2,h1,h2⟩:=h;subst e2;rcases List.mem_append.1 hc with hc | hc
   ·exact TWi.z x h1 c hc
   ·exact TWl.z xs h2 c hc
end
theorem TWk.mono {ks:List It} {a:Option Addr} {ic:Nat} {S:List Nat} (hz:∀ b,Z b→Z' b) (hw:∀ b,Z b→w'.heap[b]?=w.heap[b]?) (h:TWk Z w ks a ic S):TWk Z' w' ks a ic S:=
 h.imp id fun ⟨d,arr,S2,e1,hd,e2,e3,e4,e5⟩=>⟨d,arr,S2,e1,hz d hd,(hw d hd).trans e2,e3,TWl.mono (fun b h=>⟨hz b h.1,h.2⟩) (fun b h=>hw b h.1) ks _ _ e4,e5⟩
theorem TWk.z {ks:List It} {a:Option Addr} {ic:Nat} {S:List Nat} (h:TWk Z w ks a ic S):∀ b ∈ S,Z b:=by
 rcases h with h | ⟨d,arr,S2,e1,hd,e2,e3,e4,rfl⟩
 ·intro b hb;rw [h.2] at hb;cases hb
 ·intro b hb
  rcases List.mem_cons.1 hb with rfl | hb
  ·exact hd
  ·exact (TWl.z ks e4 b hb).1
theorem TWi.of {k:Int} {n:Nat} {b:List UInt8} {ks:List It} {ba ia:Option Addr} {bc ic:Nat} {S:List Nat} (h1:b.length≤bc∧bc≤9223372036854775807) (h2:TWb Z w b ba) (h3:ks.length≤ic∧ic≤9223372036854775807) (h4:TWk Z w ks ia ic S):TWi Z w (.mk k n b ks) [.int .i64 k,.int .u64 (n:Int),.slice ba b.length bc,.slice ia ks.length ic] S:=by
 unfold TWi;exact ⟨ba,bc,ia,ic,rfl,h1,h2,h3,h4⟩
end
def twk (ks:List It) (S:List Nat):SlP:=⟨fun Z w a n c=>n=ks.length∧(n≤c∧c≤9223372036854775807)∧TWk Z w ks a c S,fun hz hw h=>⟨h.1,h.2.1,h.2.2.mono hz hw⟩⟩
abbrev itz (x:It) (S:List Nat):List SV:=[iv x.kind,uv x.num,bsl x.bytes,.s (twk x.kids S)]
def zsL:List (It × List Nat)→List SV
 | []=>[]
 | z :: l=>itz z.1 z.2 ++ zsL l
section
variable (l:List (It × List Nat)) (z:It × List Nat) (n:Nat)
@[go_sem] theorem zsL_nil:zsL []=[]:=rfl
theorem zsL_cons:zsL (z :: l)=itz z.1 z.2 ++ zsL l:=rfl
@[go_sem] theorem zsL_len:(zsL l).length=l.length * 4:=by
 induction l with
 | nil=>rfl
 | cons x l ih=>rw [zsL_cons,List.length_append,ih];simp;omega
theorem zsL_app:zsL l ++ itz z.1 z.2=zsL (l ++ [z]):=by
 induction l with
 | nil=>simp [zsL_cons,zsL_nil]
 | cons y l ih=>rw [List.cons_append,zsL_cons,zsL_cons,List.append_assoc,ih]
@[go_sem] theorem zsL_flat:(zsL l).all flat=true:=by
 induction l with
 | nil=>rfl
 | cons y l ih=>rw [zsL_cons,List.all_append,ih];rfl
@[go_sem] theorem zsL_cv (H):(zsL l).map (cv H (n + 1))=zsL l:=by
 induction l with
 | nil=>rfl
 | cons y l ih=>rw [zsL_cons,List.map_append,ih];rfl
end
section
variable {g:Cx} {w:World}
theorem twb_of {b:List UInt8} {v:Value} (h:holds g w (bsl b) v):∃ a c,v=.slice a b.length c∧(b.length≤c∧c≤9223372036854775807)∧TWb g.Z w b a:=by
 have hb:b.length≤9223372036854775807:=by obtain ⟨a,c,_,hc,_⟩:=h;omega
 obtain ⟨a,c,rfl,hc,hB⟩:=bro_of h hb;refine ⟨a,c,rfl,hc,?_⟩;by_cases h0:b=[]
 ·exact .inl h0
 ·right
  have hl:0 < b.length:=List.length_pos_iff.2 h0;obtain ⟨d,o,ea,hd,_⟩:=hB.2.2 0 hl;refine ⟨d,o,ea,hd,fun i hi=>?_⟩;obtain ⟨d',o',ea',_,hc'⟩:=hB.2.2 i hi;rw [ea] at ea';cases ea';exact hc'
theorem twi_of {x:It} {S:List Nat} {vs:List Value} (h:agL g w (itz x S) vs):TWi g.Z w x vs S:=by
 obtain ⟨k,n,b,ks⟩:=x
 match vs,h with
 | [v1,v2,v3,v4],h=>
   obtain ⟨h1,h2,h3,h4,_⟩:=h;have h1:v1=.int .i64 k:=h1;have h2:v2=.int .u64 (n:Int):=h2;obtain ⟨a,c,rfl,hc,hB⟩:=twb_of h3;obtain ⟨a2,n2,c2,rfl,rfl,hc2,hT⟩:=h4;rw [h1,h2];exact TWi.of hc hB hc2 hT
theorem twl_of:∀ {zs:List (It × List Nat)} {vs:List Value},agL g w (zsL zs) vs→TWl g.Z w (zs.map (·.1)) vs (zs.flatMap (·.2))
 | [],[],_=>by unfold TWl;exact ⟨rfl,rfl⟩
 | [],_ :: _,h=>h.elim
 | z :: zs,vs,h=>by
   have h:agL g w (itz z.1 z.2 ++ zsL zs) vs:=h;have hl:=h.len;have h1:=h.take 4;have h2:=h.drop 4;rw [show (itz z.1 z.2 ++ zsL zs).take 4=itz z.1 z.2 from rfl] at h1;rw [show (itz z.1 z.2 ++ zsL zs).drop 4=zsL zs from rfl] at h2;rw [List.map_cons,List.flatMap_cons];unfold TWl;exact ⟨vs.take 4,vs.drop 4,z.2,_,(List.take_append_drop 4 vs).symm,rfl,twi_of h1,twl_of h2⟩
end
def isZ (LB:Nat) (x:It) (a:SV):Prop:=∃ S:List Nat,S.Nodup∧(∀ c ∈ S,LB≤c)∧a=.agg (itz x S)
def isE (LB:Nat) (l:List It) (a:SV):Prop:=∃ S:List Nat,S.Nodup∧(∀ c ∈ S,LB≤c)∧a=.s (twk l S)
def nlE (a:SV):Prop:=a=.v (.slice none 0 0)
abbrev zrow (v:Nat) (zs:List (It × List Nat)):Row:=⟨v,31,4,zsL zs⟩
theorem rr_z {g:Cx} {w:World} {ver:Nat} {b:List UInt8} {p it:Nat} {lo bt:Bool} {g2:Cx} (h:rowIn g w (RR ver b p it lo bt)) (hz:∀ c,g.Z c→g2.Z c) (hA:g2.A ver) (hm:g2.mu=g.mu) (hk:g2.ka=g.ka):rowIn g2 w (RR ver b p it lo bt):=by
 obtain ⟨ha,h⟩:=h;refine ⟨hA,?_⟩;rcases h with h | ⟨arr,h1,h2,h3,h4⟩
 ·exact absurd h.2 (by simp)
 ·right
  refine ⟨arr,by rw [hm];exact h1,by rw [hk];exact h2,h3,?_⟩;generalize arr.toList.take _=vs at h4 ⊢
  match vs,h4 with
  | [v1,v2,v3,v4,v5],h4=>exact ⟨holds.up (holds.mono (g:=g.pure) (g':=g2.pure) ⟨hz,fun _ h=>h.elim⟩ (fun _ _=>rfl) _ _ h4.1),h4.2.1,h4.2.2.1,h4.2.2.2.1,h4.2.2.2.2.1,trivial⟩
def RdL (LB ver v:Nat) (b:List UInt8) (zs:List (It × List Nat)) (R:Except Nat (It × Nat × Nat × Bool × Bool)) (r:SV) (rows:List Row):Prop:=match R with
 | .error e=>(∃ a,zI a∧r=.tup [a,iv e])∧∃ p it lo bt,rows=[RR ver b p it lo bt,zrow v zs]
 | .ok (x,p,it,lo,bt)=>(∃ S:List Nat,S.Nodup∧(∀ c ∈ S,LB≤c)∧(∀ c ∈ S,c ∉ zs.flatMap (·.2))∧r=.tup [.agg (itz x S),iv 0])∧rows=[RR ver b p it lo bt,zrow v zs]
theorem AC.lend {f:FuncId} {args:List SV} {LB ver v:Nat} {b:List UInt8} {p it:Nat} {lo bt:Bool} {zs:List (It × List Nat)} {R:Except Nat (It × Nat × Nat × Bool × Bool)} (h:∀ LB,AC Tryd.prog (XL LB) f args [RR ver b p it lo bt] (RdN ver b zI (isZ LB) R)):
 AC Tryd.prog (XL LB) f args [RR ver b p it lo bt,zrow v zs] (RdL LB ver v b zs R):=
 ⟨fun g w vals nx hE hz hA hb ha hrow hap=>by
  have hr0:=hrow (RR ver b p it lo bt) (by simp);have hq0:=hrow (zrow v zs) (by simp);have h1:=(h w.heap.size).out g w vals nx ⟨hE.1,Nat.le_refl _⟩ hz hA hb ha (fun r hr=>by rw [List.mem_singleton.1 hr];exact hr0) (fun i j r q hi hj hne=>by
   obtain ⟨h3,_⟩:=List.getElem?_eq_some_iff.1 hi;obtain ⟨h4,_⟩:=List.getElem?_eq_some_iff.1 hj;simp at h3 h4;omega)
  refine h1.mono fun en w' H=>?_
  obtain ⟨val,r,rows',g',he,hC,hh,hle,hZ,hlen,hver,hrn,hA',hs,hbk,ho,hE'⟩:=H;have hq:rowIn g' w' (zrow v zs):=by
   refine hq0.1.mono hle (fun c hc=>hbk c (hz c hc) fun q hq hk e=>?_) fun hk=>hbk _ (hb v hq0.1.1 hk) fun q hq hk2 e=>?_
   ·rw [List.mem_singleton.1 hq] at hk e
    exact (hr0.2 hk).1 (e ▸ hc)
   ·rw [List.mem_singleton.1 hq] at hk2 e
    exact hap 0 1 _ _ rfl rfl (by decide) hk2 hk e.symm
  have hold:∀ c ∈ zs.flatMap (·.2),c < w.heap.size:=fun c hc=>by
   obtain ⟨hqa,hq1⟩:=hq0.1;rcases hq1 with hq1 | ⟨arr,e1,e2,e3,e4⟩
   ·have:zs=[]:=by
     cases zs with
     | nil=>rfl
     | cons z l=>have:=hq1.2;simp [zsL_cons] at this
    subst this;cases hc
   ·exact hz c (TWl.z _ (twl_of e4) c hc)
  have fin:∀ (C:SV→List Row→Prop) (p2 it2:Nat) (lo2 bt2:Bool),rows'=[RR ver b p2 it2 lo2 bt2]→C r [RR ver b p2 it2 lo2 bt2,zrow v zs]→∃ (v_1:Value) (r:SV) (rows'_1:List Row) (g'_1:Cx),en=.returned v_1∧C r rows'_1∧holds g'_1 w' (ren 0 nx r) v_1∧g.le g'_1∧(∀ b,g'_1.Z b→g.Z b∨(w.heap.size≤b∧b < w'.heap.size))∧
   (rows'_1.length=[RR ver b p it lo bt,zrow v zs].length∨rows'_1.length=[RR ver b p it lo bt,zrow v zs].length + 1)∧(∀ (i:Nat) (r q:Row),[RR ver b p it lo bt,zrow v zs][i]?=some r→rows'_1[i]?=some q→q.ver=r.ver)∧(∀ q ∈ rnR nx ([RR ver b p it lo bt,zrow v zs].map (·.ver)) rows'_1,rowIn g'_1 w' q)∧(∀ u,g'_1.A u→g.A u∨(rows'_1.length=[RR ver b p it lo bt,zrow v zs].length + 1∧u=nx∧(g'_1.ka nx≠0→w.heap.size≤g'_1.mu nx∧g'_1.mu nx < w'.heap.size∧¬ g'_1.Z (g'_1.mu nx))))∧w.heap.size≤w'.heap.size∧(∀ c,c < w.heap.size→(∀ r ∈ [RR ver b p it lo bt,zrow v zs],g.ka r.ver≠0→c≠g.mu r.ver)→w'.heap[c]?=w.heap[c]?)∧(w'.os=w.os∧w'.tape=w.tape∧w'.output=w.output)∧(XL LB).E w':=by
   intro C p2 it2 lo2 bt2 e hC2;subst e;refine ⟨val,r,_,g',he,hC2,hh,hle,hZ,.inl rfl,fun i r q hi hj=>?_,fun q hq2=>?_,fun u hu=>?_,hs,fun c hc hne=>hbk c hc fun q hq2=>hne q (by rw [List.mem_singleton.1 hq2];simp),ho,hE'.1,Nat.le_trans hE.2 hs⟩
   ·match i,hi,hj with
    | 0,hi,hj=>simp at hi hj;subst hi;subst hj;rfl
    | 1,hi,hj=>simp at hi hj;subst hi;subst hj;rfl
    | i + 2,hi,hj=>simp at hi
   ·simp only [List.map_cons,List.map_nil,rnR,List.mem_cons,List.not_mem_nil,or_false] at hq2
    rcases hq2 with rfl | rfl
    ·exact hrn _ (by simp [rnR])
    ·exact hq
   ·rcases hA' u hu with h2 | ⟨h2,_⟩
    ·exact .inl h2
    ·simp at h2
  cases R with
  | error e=>
    obtain ⟨hr,p2,it2,lo2,bt2,e2⟩:=hC;exact fin _ p2 it2 lo2 bt2 e2 ⟨hr,_,_,_,_,rfl⟩
  | ok y=>
    obtain ⟨x,p2,it2,lo2,bt2⟩:=y;obtain ⟨⟨a,⟨S,hS1,hS2,rfl⟩,hr⟩,e2⟩:=hC;exact fin _ p2 it2 lo2 bt2 e2 ⟨⟨S,hS1,fun c hc=>Nat.le_trans hE.2 (hS2 c hc),fun c hc h2=>absurd (hold c h2) (by have:=hS2 c hc;omega),hr⟩,rfl⟩⟩
def RdE (LB ver:Nat) (b:List UInt8) (R:Except Nat (List It × Nat × Nat × Bool × Bool)) (r:SV) (rows:List Row):Prop:=match R with
 | .error e=>(∃ a,nlE a∧r=.tup [a,iv e])∧∃ p it lo bt,rows=[RR ver b p it lo bt]
 | .ok (l,p,it,lo,bt)=>∃ zs:List (It × List Nat),zs.map (·.1)=l∧(zs.flatMap (·.2)).Nodup∧(∀ c ∈ zs.flatMap (·.2),LB≤c)∧r=.tup [.own 2000 0 l.length 4,iv 0]∧rows=[RR ver b p it lo bt,⟨0,31,4,zsL zs⟩]
theorem AC.merge {f:FuncId} {args:List SV} {LB ver:Nat} {b:List UInt8} {p it:Nat} {lo bt:Bool} {R:Except Nat (List It × Nat × Nat × Bool × Bool)} (h:AC Tryd.prog (XL LB) f args [RR ver b p it lo bt] (RdE LB ver b R)):
 AC Tryd.prog (XL LB) f args [RR ver b p it lo bt] (RdN ver b nlE (isE LB) R):=
 ⟨fun g w vals nx hE hz hA hb ha hrow hap=>by
  refine (h.out g w vals nx hE hz hA hb ha hrow hap).mono fun en w' H=>?_
  obtain ⟨val,r,rows',g',he,hC,hh,hle,hZ,hlen,hver,hrn,hA',hs,hbk,ho,hE'⟩:=H;cases R with
  | error e=>exact ⟨val,r,rows',g',he,hC,hh,hle,hZ,hlen,hver,hrn,hA',hs,hbk,ho,hE'⟩
  | ok y=>
    obtain ⟨l,p2,it2,lo2,bt2⟩:=y;obtain ⟨zs,hzs,hnd,hge,rfl,rfl⟩:=hC;obtain ⟨vs,e,hh⟩:=hh
    match vs,hh with
    | [v1,v2],hh=>
      have hv1:holds g' w' (.own 0 nx l.length 4) v1:=hh.1;have hv2:v2=.int .i64 0:=hh.2.1;obtain ⟨hAn,⟨hn,hk⟩,hv1⟩:=hv1;have hr1:rowIn g' w' (RR ver b p2 it2 lo2 bt2):=hrn _ (by simp [rnR]);have hr2:rowIn g' w' ⟨nx,31,4,zsL zs⟩:=hrn _ (by simp [rnR]);have hnx:g'.ka nx≠0→w.heap.size≤g'.mu nx∧g'.mu nx < w'.heap.size∧¬ g'.Z (g'.mu nx):=fun hk=>by
       rcases hA' nx hAn with h | ⟨_,_,h⟩
       ·exact absurd (hA nx h) (Nat.lt_irrefl _)
       ·exact h hk
      have hgA:g.A ver:=(hrow (RR ver b p it lo bt) (by simp)).1.1;have hTW:l=[]∨(g'.ka nx≠0∧∃ arr:Array Value,w'.heap[g'.mu nx]?=some (.cells arr 31 (0,0))∧arr.size=g'.ka nx * 4∧TWl g'.Z w' l (arr.toList.take (l.length * 4)) (zs.flatMap (·.2))):=by
       obtain ⟨_,h3 | ⟨arr,e1,e2,e3,e4⟩⟩:=hr2
       ·left
        have h4:zs=[]:=by
         cases zs with
         | nil=>rfl
         | cons z l=>have:=h3.2;simp [zsL_cons] at this
        rw [← hzs,h4];rfl
       ·by_cases hl0:l=[]
        ·exact .inl hl0
        ·right
         have hll:zs.length=l.length:=by rw [← hzs,List.length_map]
         have h5:0 < l.length:=List.length_pos_iff.2 hl0;have e3':(zsL zs).length≤arr.size:=e3;rw [zsL_len,hll] at e3';have e4':agL g' w' (zsL zs) (arr.toList.take (zsL zs).length):=e4;rw [zsL_len,hll] at e4';have:=twl_of e4';rw [hzs] at this;exact ⟨by have e2':arr.size=g'.ka nx * 4:=e2;intro hk0;rw [hk0] at e2';omega,arr,e1,e2,this⟩
      have hg2:g.le ⟨fun c=>g'.Z c∨(g'.ka nx≠0∧c=g'.mu nx),g.A,g'.mu,g'.ka⟩:=⟨fun c hc=>.inl (hle.z c hc),fun u hu=>⟨hu,(hle.a u hu).2⟩⟩;refine ⟨val,_,[RR ver b p2 it2 lo2 bt2],⟨fun c=>g'.Z c∨(g'.ka nx≠0∧c=g'.mu nx),g.A,g'.mu,g'.ka⟩,he,⟨⟨.s (twk l (if l=[] then [] else g'.mu nx :: zs.flatMap (·.2))),⟨_,?_,?_,rfl⟩,rfl⟩,rfl⟩,?_,hg2,?_,.inl rfl,?_,?_,fun u hu=>.inl hu,hs,hbk,ho,hE'⟩
      ·split
       ·exact List.nodup_nil
       ·rename_i hl0
        obtain ⟨hk0,arr,e1,e2,e3⟩:=hTW.resolve_left hl0;exact List.nodup_cons.2 ⟨fun hc=>(hnx hk0).2.2 (TWl.z _ e3 _ hc),hnd⟩
      ·intro c hc
       split at hc
       ·cases hc
       ·rename_i hl0
        obtain ⟨hk0,_⟩:=hTW.resolve_left hl0;rcases List.mem_cons.1 hc with rfl | hc
        ·exact Nat.le_trans hE.2 (hnx hk0).1
        ·exact hge c hc
      ·refine ⟨[v1,v2],e,?_,hv2,trivial⟩
       have hTk:TWk (fun c=>g'.Z c∨(g'.ka nx≠0∧c=g'.mu nx)) w' l (if g'.ka nx=0 then none else some ⟨g'.mu nx,0,none⟩) (g'.ka nx) (if l=[] then [] else g'.mu nx :: zs.flatMap (·.2)):=by
        by_cases hl0:l=[]
        ·exact .inl ⟨hl0,if_pos hl0⟩
        ·obtain ⟨hk0,arr,e1,e2,e3⟩:=hTW.resolve_left hl0
         right
         exact ⟨_,arr,_,if_neg hk0,.inr ⟨hk0,rfl⟩,e1,e2,TWl.mono (fun c hc=>⟨.inl hc,fun e=>(hnx hk0).2.2 (e ▸ hc)⟩) (fun _ _=>rfl) _ _ _ e3,if_neg hl0⟩
       show ∃ a n c,v1=.slice a n c∧(n=l.length∧(n≤c∧c≤9223372036854775807)∧TWk _ w' l a c _)
       rcases hv1 with hv1 | ⟨hk0,hv1⟩
       ·by_cases hk0:g'.ka nx=0
        ·have hl0:l=[]:=List.length_eq_zero_iff.1 (by omega)
         exact ⟨_,_,_,hv1,rfl,⟨hn,hk⟩,.inl ⟨hl0,if_pos hl0⟩⟩
        ·rw [if_neg hk0] at hTk
         exact ⟨_,_,_,hv1,rfl,⟨hn,hk⟩,hTk⟩
       ·have hl0:l=[]:=List.length_eq_zero_iff.1 (by omega)
        exact ⟨_,_,_,hv1,by rw [hl0];rfl,⟨by omega,by omega⟩,.inl ⟨hl0,if_pos hl0⟩⟩
      ·rintro c (hc | ⟨hk0,rfl⟩)
       ·exact hZ c hc
       ·exact .inr ⟨(hnx hk0).1,(hnx hk0).2.1⟩
      ·intro i r q hi hj
       match i,hi,hj with
       | 0,hi,hj=>simp at hi hj;subst hi;subst hj;rfl
       | i + 1,hi,hj=>simp at hi
      ·intro q hq
       simp only [List.map_cons,List.map_nil,rnR,List.mem_cons,List.not_mem_nil,or_false] at hq;subst hq;exact rr_z hr1 (fun c hc=>.inl hc) hgA rfl rfl⟩
def ItZ (b:List UInt8) (g:Nat):Prop:=∀ (LB s ver lv p it:Nat) (lo bt:Bool),p≤b.length→it≤256→lv≤8→2 * (256 - it) + 1≤g→AC Tryd.prog (XL LB) 48 [.ptr s ver 0,iv lv] [RR ver b p it lo bt] (RdN ver b zI (isZ LB) (itR b (gi b g lv p it 8) lo bt))
def GZ (LB:Nat) (b:List UInt8) (acc:List Gt) (zs:List (It × List Nat)):Prop:=zs.map (·.1)=Gt.its b acc∧(zs.flatMap (·.2)).Nodup∧∀ c ∈ zs.flatMap (·.2),LB≤c
theorem GZ.nil (LB:Nat) (b:List UInt8):GZ LB b [] []:=⟨rfl,List.nodup_nil,fun _ h=>by cases h⟩
theorem GZ.len {LB:Nat} {b:List UInt8} {acc:List Gt} {zs:List (It × List Nat)} (h:GZ LB b acc zs):zs.length=acc.length:=by
 have:=congrArg List.length h.1;rwa [List.length_map,Gt.its_len] at this
theorem GZ.app {LB:Nat} {b:List UInt8} {acc:List Gt} {zs:List (It × List Nat)} {t:Gt} {S:List Nat} (h:GZ LB b acc zs) (h1:S.Nodup) (h2:∀ c ∈ S,LB≤c) (h3:∀ c ∈ S,c ∉ zs.flatMap (·.2)):GZ LB b (acc ++ [t]) (zs ++ [(t.it b,S)]):=by
 obtain ⟨a1,a2,a3⟩:=h;have e:(zs ++ [(t.it b,S)]).flatMap (·.2)=zs.flatMap (·.2) ++ S:=by simp
 refine ⟨by rw [List.map_append,a1,Gt.its_app];rfl,?_,?_⟩
 ·rw [e]
  exact List.nodup_append.2 ⟨a2,h1,fun x hx y hy e=>h3 y hy (e ▸ hx)⟩
 ·rw [e]
  intro c hc;rcases List.mem_append.1 hc with hc | hc
  ·exact a3 c hc
  ·exact h2 c hc
theorem RdE.err {LB ver:Nat} {b:List UInt8} {R:Except Nat (List It × Nat × Nat × Bool × Bool)} {e:Nat} {a:SV} {p it:Nat} {lo bt:Bool} (h:R=.error e) (hZ:nlE a):RdE LB ver b R (.tup [a,iv e]) [RR ver b p it lo bt]:=by
 rw [h];exact ⟨⟨a,hZ,rfl⟩,p,it,lo,bt,rfl⟩
theorem RdE.ok {LB ver:Nat} {b:List UInt8} {R:Except Nat (List It × Nat × Nat × Bool × Bool)} {acc:List Gt} {zs:List (It × List Nat)} {p it:Nat} {lo bt:Bool} (h:R=.ok (Gt.its b acc,p,it,lo,bt)) (hZ:GZ LB b acc zs):RdE LB ver b R (.tup [.own 2000 0 acc.length 4,iv 0]) [RR ver b p it lo bt,⟨0,31,4,zsL zs⟩]:=by
 rw [h];exact ⟨zs,hZ.1,hZ.2.1,hZ.2.2,by rw [Gt.its_len],rfl⟩
@[go_sem] theorem fs_v (x:Value) (l:List SV):List.findSome? oS1 (.v x :: l)=List.findSome? oS1 l:=rfl
@[go_sem] theorem fs_nil:List.findSome? oS1 []=none:=rfl
@[go_sem] theorem zsL_app2 (l:List (It × List Nat)) (x:It) (S:List Nat):zsL l ++ itz x S=zsL (l ++ [(x,S)]):=zsL_app l (x,S)
set_option maxHeartbeats 8000000 in
theorem elemz_c (LB s ver:Nat) (b:List UInt8) (g lv p it:Nat) (lo bt:Bool) (mj lw n z:Nat) (hb:b.length≤4096) (hp:p≤b.length) (hi:it≤256) (hlv:lv≤8) (hn:n < 18446744073709551616) (hm:mj=4∨mj=5∨mj=6) (hl:lw < 28∨lw=31) (hg:2 * (256 - it) + 2≤g) (ih:∀ k,k < g→ItZ b k) (op:Bool) (hop:op=decide (lw=31)) (cnt w:Nat) (hw:w=if mj=5 then 2 else 1) (hcnt:cnt=w * n) (h6:mj=6→n=1):AC Tryd.prog (XL LB) 79 [.ptr s ver 0,.agg [y8 mj,y8 lw,uv n,iv z],iv lv] [RR ver b p it lo bt] (RdE LB ver b (elR b op mj lo bt (gl b g lv p it (cO op cnt 0) 8))):=by
 have hQ:preG [] (gl b g lv p it (cO op cnt 0) 8)=gl b g lv p it (cO op cnt 0) 8:=preG_nil _;generalize hq:gl b g lv p it (cO op cnt 0) 8=Q at hQ;have hQ:preG [] (gl b g lv p it (cO op cnt 0) 8)=Q:=by rw [hq];exact hQ
 have HQ:=dh hQ;have HW:=dh (And.intro hw hcnt);have HOP:=dh hop;clear hop;have hw1:1≤w∧w≤2∧(w=2→mj=5)∧(w=1→mj≠5):=by rw [hw];split <;> omega
 clear hQ hq hw hcnt;refine AC.bodyW true Tryd.func79 rfl Tryd.call79 Tryd.ntmps79 (by simp) fun e nx=>?_
 go_simp
 refine sqc ?_;go_simp;refine sqc ?_;go_simp;refine sqc ?_;go_simp;rw [show decide ((lw:Int)=31)=op by rw [HOP.out];exact decide_eq_decide.2 (by omega)];refine sqc ?_;go_simp;have hcn:op=false→cnt=w * n:=fun _=>HW.out.2
 refine lp (α:=Nat × Nat × Nat × Nat × List Gt × Nat × Nat × List (It × List Nat)) (fun x=>x.2.2.1≤b.length∧x.2.2.2.1≤256∧(2 * (256 - x.2.2.2.1) + 2≤x.2.1∧x.2.1≤g)∧x.2.2.2.2.1.length≤x.2.2.2.1∧x.2.2.2.2.1.length=w * x.2.2.2.2.2.2.1∧(op=false→x.2.2.2.2.2.2.1≤n)∧Hid (preG x.2.2.2.2.1 (gl b x.2.1 lv x.2.2.1 x.2.2.2.1 (cO op cnt x.2.2.2.2.1.length) 8)=Q)∧GZ LB b x.2.2.2.2.1 x.2.2.2.2.2.2.2) (fun x=>⟨[(0,.ptr 1000 ver 0),(2,iv lv),(4,.ptr 4 nx 0),(8,.own 900 x.2.2.2.2.2.1 x.2.2.2.2.1.length 4),(9,bov op),(10,uv x.2.2.2.2.2.2.1)],[(1000,RR ver b x.2.2.1 x.2.2.2.1 (lo || Gt.looses x.2.2.2.2.1) (bt || Gt.bads b x.2.2.2.2.1)),(4,⟨nx,125,4,[y8 mj,y8 lw,uv n,iv z]⟩),(900,⟨x.2.2.2.2.2.1,31,4,zsL x.2.2.2.2.2.2.2⟩)],x.1,[],66⟩) (fun x=>b.length - x.2.2.1) [(8,900,31,4)] [] (nx + 2,g,p,it,[],nx + 1,0,[]) ?_ ?_
 ·go_simp
  simp [Gt.looses,Gt.bads];exact GZ.nil _ _
 ·rintro ⟨u,g',p',it',acc,v,i,zs⟩ ⟨hp',hi',hg',hs',ha',hin',HQ',HZ⟩
  replace hp':p'≤b.length:=hp'
  replace hi':it'≤256:=hi'
  replace hg':2 * (256 - it') + 2≤g'∧g'≤g:=hg'
  replace hs':acc.length≤it':=hs'
  replace ha':acc.length=w * i:=ha'
  replace hin':op=false→i≤n:=hin'
  replace HQ':Hid (preG acc (gl b g' lv p' it' (cO op cnt acc.length) 8)=Q):=HQ'
  have HA:=dh ha';have hi256:i≤256:=by have:=Nat.le_mul_of_pos_left i (show 0 < w by omega);omega
  clear ha'
  dsimp only
  refine ct (α:=Unit) (fun _=>op=false→i < n) (fun _=>⟨[(0,.ptr 1000 ver 0),(2,iv lv),(4,.ptr 4 nx 0),(8,.own 900 v acc.length 4),(9,bov op),(10,uv i)],[(1000,RR ver b p' it' (lo || Gt.looses acc) (bt || Gt.bads b acc)),(4,⟨nx,125,4,[y8 mj,y8 lw,uv n,iv z]⟩),(900,⟨v,31,4,zsL zs⟩)],u,[],66⟩) [] (gw ?_) ?_
  ·go_simp
   cases op with
   | true=>go_simp
   | false=>
     go_simp
     refine ifd (fun h=>?_) (fun h=>?_) <;> go_simp
     ·refine gw ?_;go_simp
      obtain rfl:i=n:=by have:=hin' rfl;omega
      have hR:elR b false mj lo bt Q=.ok (Gt.its b acc,p',it',lo || Gt.looses acc,bt || Gt.bads b acc):=by
       obtain ⟨k,rfl⟩:∃ k,g'=k + 1:=⟨g' - 1,by omega⟩;rw [← HQ'.out,HA.out,hcn rfl,show cO false (w * i) (w * i)=some 0 by simp [cO],gl_zero];simp [preG,elR]
      have HR:=dh hR;clear hR;exact RdE.ok HR.out HZ
  ·rintro - hin
   replace hin:op=false→i < n:=hin
   refine sqA (blk ?_);refine ct (α:=Unit) (fun _=>op=true→brk b p'=false) (fun _=>⟨[(0,.ptr 1000 ver 0),(2,iv lv),(4,.ptr 4 nx 0),(8,.own 900 v acc.length 4),(9,bov op),(10,uv i)],[(1000,RR ver b p' it' (lo || Gt.looses acc) (bt || Gt.bads b acc)),(4,⟨nx,125,4,[y8 mj,y8 lw,uv n,iv z]⟩),(900,⟨v,31,4,zsL zs⟩)],u,[],66⟩) [] (gw ?_) ?_
   ·go_simp
    cases op with
    | false=>go_simp
    | true=>
      go_simp
      refine cl [] [1000] (stop_c (XL LB) 1000 ver b p' it' (lo || Gt.looses acc) (bt || Gt.bads b acc) hb hp') (by go_simp) ?_;rintro r rows ⟨rfl,rfl⟩;go_simp
      have hend:brk b p'=true→Hid (elR b true mj lo bt Q=.ok (Gt.its b acc,p' + 1,it',lo || Gt.looses acc,bt || Gt.bads b acc)):=fun h=>dh (by
       obtain ⟨k,rfl⟩:∃ k,g'=k + 1:=⟨g' - 1,by omega⟩;rw [← HQ'.out,show cO true cnt acc.length=none by simp [cO],gl_brk h];have ho:¬ (mj=5∧acc.length % 2=1):=fun ⟨h5,h2⟩=>by
        have hA:=HA.out;obtain rfl:w=2:=by omega
        omega
       simp [preG,elR,ho])
      refine ifk (fun h=>?_) (fun h=>?_)
      ·rw [if_pos h]
       have HE:=hend h;clear hend;go_simp
       exact RdE.ok HE.out HZ
      ·rw [if_neg (by rw [h];simp)]
       clear hend;go_simp
   ·rintro - hbk
    replace hbk:op=true→brk b p'=false:=hbk
    refine sqc ?_;go_simp;refine blk ?_;refine lp (α:=Nat × Nat × Nat × Nat × List Gt × Nat × Nat × List (It × List Nat)) (fun x=>x.2.2.1≤b.length∧x.2.2.2.1≤256∧(2 * (256 - x.2.2.2.1) + 2≤x.2.1∧x.2.1≤g)∧x.2.2.2.2.1.length≤x.2.2.2.1∧Hid (x.2.2.2.2.1.length=w * i + x.2.2.2.2.2.2.1)∧x.2.2.2.2.2.2.1≤w∧p'≤x.2.2.1∧(0 < x.2.2.2.2.2.2.1→p' < x.2.2.1)∧(x.2.2.2.2.2.2.1=0→op=true→brk b x.2.2.1=false)∧Hid (preG x.2.2.2.2.1 (gl b x.2.1 lv x.2.2.1 x.2.2.2.1 (cO op cnt x.2.2.2.2.1.length) 8)=Q)∧GZ LB b x.2.2.2.2.1 x.2.2.2.2.2.2.2) (fun x=>⟨[(0,.ptr 1000 ver 0),(2,iv lv),(4,.ptr 4 nx 0),(8,.own 900 x.2.2.2.2.2.1 x.2.2.2.2.1.length 4),(9,bov op),(10,uv i),(11,iv x.2.2.2.2.2.2.1)],[(1000,RR ver b x.2.2.1 x.2.2.2.1 (lo || Gt.looses x.2.2.2.2.1) (bt || Gt.bads b x.2.2.2.2.1)),(4,⟨nx,125,4,[y8 mj,y8 lw,uv n,iv z]⟩),(900,⟨x.2.2.2.2.2.1,31,4,zsL x.2.2.2.2.2.2.2⟩)],x.1,[],66⟩) (fun x=>2 - x.2.2.2.2.2.2.1) [] [] (u,g',p',it',acc,v,0,zs) ?_ ?_
    ·go_simp
     exact hbk
    ·rintro ⟨u1,g1,p1,it1,acc1,v1,k,zs1⟩ ⟨hp1,hi1,hg1,hs1,HA1,hk1,hpp,hpk,hbk1,HQ1,HZ1⟩
     replace hp1:p1≤b.length:=hp1
     replace hi1:it1≤256:=hi1
     replace hg1:2 * (256 - it1) + 2≤g1∧g1≤g:=hg1
     replace hs1:acc1.length≤it1:=hs1
     replace HA1:Hid (acc1.length=w * i + k):=HA1
     replace hk1:k≤w:=hk1
     replace hpp:p'≤p1:=hpp
     replace hpk:0 < k→p' < p1:=hpk
     replace hbk1:k=0→op=true→brk b p1=false:=hbk1
     replace HQ1:Hid (preG acc1 (gl b g1 lv p1 it1 (cO op cnt acc1.length) 8)=Q):=HQ1
     dsimp only
     have hout:k=w→Hid (acc1.length=w * (i + 1)):=fun h=>dh (by rw [HA1.out,h,Nat.mul_succ])
     refine ct (α:=Unit) (fun _=>k < 2) (fun _=>⟨[(0,.ptr 1000 ver 0),(2,iv lv),(4,.ptr 4 nx 0),(8,.own 900 v1 acc1.length 4),(9,bov op),(10,uv i),(11,iv k)],[(1000,RR ver b p1 it1 (lo || Gt.looses acc1) (bt || Gt.bads b acc1)),(4,⟨nx,125,4,[y8 mj,y8 lw,uv n,iv z]⟩),(900,⟨v1,31,4,zsL zs1⟩)],u1,[],66⟩) [] (gw ?_) ?_
     ·go_simp
      refine ifd (fun h=>?_) (fun h=>?_) <;> go_simp
      ·omega
      ·obtain rfl:k=2:=by omega
       have HO:=hout (by omega);have hpk:=hpk (by omega);clear hout;refine gw ?_;go_simp;go_bits;exact ⟨u1,g1,p1,it1,acc1,v1,i + 1,zs1,⟨hp1,hi1,hg1,hs1,HO.out,fun h=>hin h,HQ1,HZ1⟩,by omega,Nat.le_refl _,⟨⟨rfl,rfl⟩,by omega⟩,⟨rfl,rfl,rfl,rfl⟩,rfl,rfl⟩
     ·rintro - hk2
      replace hk2:k < 2:=hk2
      refine sqA (blk ?_);refine ct (α:=Unit) (fun _=>k < w) (fun _=>⟨[(0,.ptr 1000 ver 0),(2,iv lv),(4,.ptr 4 nx 0),(8,.own 900 v1 acc1.length 4),(9,bov op),(10,uv i),(11,iv k)],[(1000,RR ver b p1 it1 (lo || Gt.looses acc1) (bt || Gt.bads b acc1)),(4,⟨nx,125,4,[y8 mj,y8 lw,uv n,iv z]⟩),(900,⟨v1,31,4,zsL zs1⟩)],u1,[],66⟩) [] (gw ?_) ?_
      ·go_simp
       refine gdd (fun h=>?_) (fun h=>?_) <;> go_simp
       ·obtain rfl:k=1:=by omega
        refine ifn (fun h5=>?_) (fun h5=>?_) <;> go_simp
        ·have HO:=hout (by omega)
         have hpk:=hpk (by omega);clear hout;refine gw ?_;go_simp;go_bits;exact ⟨u1,g1,p1,it1,acc1,v1,i + 1,zs1,⟨hp1,hi1,hg1,hs1,HO.out,fun h=>hin h,HQ1,HZ1⟩,by omega,Nat.le_refl _,⟨⟨rfl,rfl⟩,by omega⟩,⟨rfl,rfl,rfl,rfl⟩,rfl,rfl⟩
        ·omega
       ·omega
      ·rintro - hkw
       replace hkw:k < w:=hkw
       clear hout;refine ct (α:=Unit) (fun _=>op=true→brk b p1=false) (fun _=>⟨[(0,.ptr 1000 ver 0),(2,iv lv),(4,.ptr 4 nx 0),(8,.own 900 v1 acc1.length 4),(9,bov op),(10,uv i),(11,iv k)],[(1000,RR ver b p1 it1 (lo || Gt.looses acc1) (bt || Gt.bads b acc1)),(4,⟨nx,125,4,[y8 mj,y8 lw,uv n,iv z]⟩),(900,⟨v1,31,4,zsL zs1⟩)],u1,[],66⟩) [] (gw ?_) ?_
       ·go_simp
        refine gdd (fun h=>?_) (fun h=>?_)
        ·obtain rfl:k=1:=by omega
         cases op with
         | false=>go_simp
         | true=>
           have hend:brk b p1=true→Hid (elR b true mj lo bt Q=.error 4):=fun h=>dh (by
            obtain ⟨k,rfl⟩:∃ k,g1=k + 1:=⟨g1 - 1,by omega⟩;rw [← HQ1.out,show cO true cnt acc1.length=none by simp [cO],gl_brk h];obtain rfl:w=2:=by omega
            have hA:=HA1.out;have ho:mj=5∧acc1.length % 2=1:=⟨by omega,by omega⟩;simp [preG,elR,ho])
           go_simp
           refine cl [] [1000] (stop_c (XL LB) 1000 ver b p1 it1 (lo || Gt.looses acc1) (bt || Gt.bads b acc1) hb hp1) (by go_simp) ?_;rintro r rows ⟨rfl,rfl⟩;go_simp
           refine ifk (fun h=>?_) (fun h=>?_)
           ·rw [if_pos h]
            have HE:=hend h;clear hend;go_simp
            exact RdE.err HE.out rfl
           ·rw [if_neg (by rw [h];simp)]
            clear hend;go_simp
        ·have h0:k=0:=by omega
         have hb0:=hbk1 h0;go_simp
         exact hb0
       ·rintro - hbk2
        replace hbk2:op=true→brk b p1=false:=hbk2
        obtain ⟨g1,rfl⟩:∃ k,g1=k + 1:=⟨g1 - 1,by omega⟩;have hc0:cO op cnt acc1.length≠some 0:=by
         have hA:=HA1.out;cases op with
         | true=>simp [cO]
         | false=>
           have h1:=hcn rfl;have h2:=hin rfl;have h3:w * i + w≤w * n:=by rw [← Nat.mul_succ];exact Nat.mul_le_mul_left w h2
           simp only [cO];intro h;have h:cnt - acc1.length=0:=by simpa using h
           omega
        have hst:=gl_step (b:=b) (g:=g1) (lv:=lv) (p:=p1) (it:=it1) (ck:=8) hc0 (fun h=>hbk2 (by cases op with | true=>rfl | false=>simp [cO] at h))
        have hcm:(cO op cnt acc1.length).map (· - 1)=cO op cnt (acc1.length + 1):=by cases op <;> simp [cO,Nat.sub_sub]
        rw [hcm] at hst;have HQ2:=HQ1.out;rw [hst] at HQ2;clear hst hcm hc0 HQ1;have HQ1:=dh HQ2;clear HQ2;refine sqc ?_;go_simp;have hcl:=AC.lend (LB:=LB) (v:=v1) (zs:=zs1) fun LB=>ih g1 (by omega) LB 1000 ver lv p1 it1 (lo || Gt.looses acc1) (bt || Gt.bads b acc1) hp1 hi1 hlv (by omega)
        refine cl (C:=RdL LB ver v1 b zs1 (itR b (gi b g1 lv p1 it1 8) (lo || Gt.looses acc1) (bt || Gt.bads b acc1))) [] [1000,900] (by simp [arg,lnt,lnR,cv,frzH,go_sem];exact hcl) (by go_simp) ?_;rintro r rows hR;cases hgi:gi b g1 lv p1 it1 8 with
        | error e'=>
          rw [hgi] at hR;have HE:=dh (show elR b op mj lo bt Q=.error e' by rw [← HQ1.out,hgi];rfl);have hne:=gi_err hgi;obtain ⟨⟨a,⟨kz,rfl⟩,rfl⟩,p2,it2,lo2,bt2,rfl⟩:=hR;clear hgi;go_simp
          refine gw ?_;go_simp;exact RdE.err HE.out rfl
        | ok y=>
          obtain ⟨t,q,j⟩:=y;rw [hgi] at hR;obtain ⟨hb1,hb2,hb3,hb4⟩:=gi_bd hgi hi1 hp1;have HQ2:=HQ1.out;rw [hgi] at HQ2;simp only at HQ2;rw [preG_pre] at HQ2;have HQ3:=dh HQ2;clear HQ2 HQ1 hgi;obtain ⟨⟨S,hS1,hS2,hS3,rfl⟩,rfl⟩:=hR;go_simp
          refine gw ?_;go_simp;refine ⟨⟨by rw [HZ1.len],by rw [show Tryd.t31.bytes=64 from rfl];omega,by omega⟩,?_⟩;refine gw ?_;go_simp;go_bits;have hA1:=HA1.out;refine ⟨u1 + 1 + 1 + 1 + 1,g1,q,j,acc1 ++ [t],u1 + 1 + 1 + 1,k + 1,zs1 ++ [(t.it b,S)],⟨hb4,hb2,by omega,by rw [List.length_append];simp;omega,dh (by rw [List.length_append,hA1];simp;omega),by omega,by omega,(fun _=>by omega),(fun h=>by omega),?_,HZ1.app hS1 hS2 hS3⟩,by omega,Nat.le_refl _,?_⟩
          ·rw [List.length_append];exact HQ3
          ·rw [List.length_append,Gt.looses_app,Gt.bads_app,Gt.looses1,Gt.bads1]
           refine ⟨⟨⟨rfl,rfl⟩,by omega⟩,⟨rfl,rfl,(Bool.or_assoc ..),(Bool.or_assoc ..)⟩,rfl,rfl⟩
def itzN (LB:Nat) (x:It) (a:SV):Prop:=∃ B K S,S.Nodup∧(∀ c ∈ S,LB≤c)∧a=.agg [iv x.kind,uv x.num,B,K]∧slN x.bytes.length 1 (bys x.bytes) B∧(K=.s (twk x.kids S)∨(x.kids=[]∧S=[]∧slN x.kids.length 4 (itL x.kids) K))
theorem itzN.flat (LB:Nat) (k:Int) (n:Nat):itzN LB (.mk k n [] []) (.agg [iv k,uv n,.v (.slice none 0 0),.v (.slice none 0 0)]):=⟨_,_,[],List.nodup_nil,fun _ h=>(by cases h),rfl,.inr ⟨rfl,rfl,rfl⟩,.inr ⟨rfl,rfl,.inr ⟨rfl,rfl,rfl⟩⟩⟩
theorem itzN.leaf {LB:Nat} {x:It} (h:x.kids=[]):itzN LB x (.agg [iv x.kind,uv x.num,bsl x.bytes,isl x.kids]):=⟨_,_,[],List.nodup_nil,fun _ h=>(by cases h),rfl,.inl rfl,.inr ⟨h,rfl,.inl rfl⟩⟩
theorem itzN.leaf2 {LB:Nat} {x:It} (h:x.kids=[]):itzN LB x (.agg [iv x.kind,uv x.num,bsl x.bytes,.sl 0 4 []]):=⟨_,_,[],List.nodup_nil,fun _ h=>(by cases h),rfl,.inl rfl,.inr ⟨h,rfl,by rw [h];exact .inl rfl⟩⟩
theorem itzN.kids {LB:Nat} {k:Int} {n:Nat} {l:List It} {S:List Nat} (h1:S.Nodup) (h2:∀ c ∈ S,LB≤c):itzN LB (.mk k n [] l) (.agg [iv k,uv n,.v (.slice none 0 0),.s (twk l S)]):=⟨_,_,S,h1,h2,rfl,.inr ⟨rfl,rfl,rfl⟩,.inl rfl⟩
theorem txR_kids {b:List UInt8} {g lv p it mj lw n:Nat} {lo bt:Bool} {x:It} {y:Nat × Nat × Bool × Bool} (h:txR b g lv p it mj lw n lo bt=.ok (x,y)):x.kids=[]:=by
 unfold txR at h
 split at h
 ·split at h
  ·cases h
  ·cases h;rfl
 ·split at h
  ·cases h;rfl
  ·cases h
theorem sevX_kids (lw n:Nat):(sevX lw n).kids=[]:=by unfold sevX;split <;> rfl
theorem AC.wkz {X:Ev} {f:FuncId} {args:List SV} {rows:List Row} {LB ver:Nat} {b:List UInt8} {R:Except Nat (It × Nat × Nat × Bool × Bool)} (h:AC Tryd.prog X f args rows (RdN ver b zI (itzN LB) R)):AC Tryd.prog X f args rows (RdN ver b zI (isZ LB) R):=by
 refine h.weak fun r rows hr=>?_
 cases R with
 | error e=>exact ⟨r,hr,fun _ _ _ _ h=>h⟩
 | ok x=>
   obtain ⟨x,p,it,lo,bt⟩:=x;obtain ⟨⟨a,⟨B,K,S,hS1,hS2,rfl,hB,hK⟩,rfl⟩,hrow⟩:=hr;refine ⟨_,⟨⟨.agg (itz x S),⟨S,hS1,hS2,rfl⟩,rfl⟩,hrow⟩,fun g w v nx hv=>?_⟩;obtain ⟨vs,e,hv⟩:=hv
   match vs,hv with
   | [v1,v2],hv=>
     refine ⟨_,e,?_,hv.2.1,trivial⟩;obtain ⟨us,e2,hu⟩:=hv.1
     match us,hu with
     | [u1,u2,u3,u4],hu=>
       refine ⟨_,e2,hu.1,hu.2.1,hB.holds hu.2.2.1,?_,trivial⟩;rcases hK with rfl | ⟨hk,rfl,hK⟩
       ·exact hu.2.2.2.1
       ·have h4:=hK.holds hu.2.2.2.1
        rw [hk] at h4;obtain ⟨a2,c2,rfl,hc2,_,_⟩:=h4;exact ⟨a2,_,c2,rfl,by rw [hk],hc2,by rw [hk];exact .inl ⟨rfl,rfl⟩⟩
set_option maxHeartbeats 8000000 in
theorem itemz_c (b:List UInt8) (hb:b.length≤4096) (hsev:SevK b) (g:Nat):ItZ b g:=by
 induction g using Nat.strongRecOn with
 | _ g ih=>
   intro LB s ver lv p it lo bt hp hi hlv hg;obtain ⟨g,rfl⟩:∃ k,g=k + 1:=⟨g - 1,by omega⟩;obtain ⟨R,hR⟩:∃ R,R=itR b (gi b (g + 1) lv p it 8) lo bt:=⟨_,rfl⟩;rw [← hR];rw [gi] at hR;have HR:=dh hR;clear hR;refine AC.wkz ?_;refine AC.bodyW false Tryd.func48 rfl Tryd.call48 Tryd.ntmps48 (by simp) fun e nx=>?_
   go_simp
   refine sqc ?_;go_simp;refine sqc ?_;go_simp;refine cl [] [1000] (hd_c (X:=XL LB) 1000 ver b p it 8 lo bt hb hp hi (by omega)) (by go_simp) ?_;rintro r rows hH;unfold HdC at hH;cases hh:hdP b p it 8 with
   | error e'=>
     rw [hh] at hH;have hne:=hdP_err hh;obtain ⟨rfl,p2,it2,lo2,rfl⟩:=hH;have HE:=dh (show R=.error e' by rw [HR.out,hh];rfl);clear hh;go_simp
     refine gw ?_;go_simp;exact RdN.err HE.out ⟨_,rfl⟩
   | ok x=>
     obtain ⟨mj,lw,n,z,q⟩:=x;obtain ⟨_,_,hmj,hlw,hn,hq1,hq2,hlw2,_,h31,hz,h310,_⟩:=hdP_ok hh;have hq2:=hq2 (by omega);rw [hh] at hH;obtain ⟨rfl,rfl⟩:=hH;have HR2:=dh (HR.out.trans (by rw [hh]));have HZ:=dh hz;have hnum:=hdP_num hh;clear hh HR hz;go_simp
     refine sqc ?_;go_simp;refine sqc ?_;go_simp;go_bits;refine sqc ?_;go_simp;rcases (show mj=0∨mj=1∨mj=2∨mj=3∨mj=7∨mj=4∨mj=5∨mj=6 by omega) with rfl | rfl | rfl | rfl | rfl | rfl | rfl | rfl
     ·have HE:=dh (show R=.ok (.mk (0:Nat) n [] [],q,it + 1,lo || decide (lw=31) || !decide (z=shortP n),bt) by rw [HR2.out,HZ.out];exact it_leaf (by omega) (by omega))
      clear HR2;go_simp
      exact RdN.ok HE.out (itzN.flat _ _ _)
     ·have HE:=dh (show R=.ok (.mk (1:Nat) n [] [],q,it + 1,lo || decide (lw=31) || !decide (z=shortP n),bt) by rw [HR2.out,HZ.out];exact it_leaf (by omega) (by omega))
      clear HR2;go_simp
      exact RdN.ok HE.out (itzN.flat _ _ _)
     ·have HE:=dh (show R=txR b g lv q (it + 1) 2 lw n (lo || decide (lw=31) || !decide (z=shortP n)) bt by rw [HR2.out,HZ.out];exact it_str (by omega))
      clear HR2;go_simp
      refine cl [] [1000] (AC.up LB (text_c 1000 ver b g lv q (it + 1) (lo || decide (lw=31) || !decide (z=shortP n)) bt 2 lw n z hb hq2 (by omega) hn (by omega) hlw2 (by omega))) (by go_simp) ?_;rintro r rows hT;cases ht:txR b g lv q (it + 1) 2 lw n (lo || decide (lw=31) || !decide (z=shortP n)) bt with
      | error e'=>
        rw [ht] at hT;have HE:=dh (HE.out.trans ht);clear ht;obtain ⟨⟨a,⟨kz,rfl⟩,rfl⟩,p2,it2,lo2,bt2,rfl⟩:=hT;go_simp
        exact RdN.err HE.out ⟨_,rfl⟩
      | ok y=>
        obtain ⟨x,p2,it2,lo2,bt2⟩:=y;have hkz:=txR_kids ht;rw [ht] at hT;have HE:=dh (HE.out.trans ht);clear ht;obtain ⟨⟨a,rfl,rfl⟩,rfl⟩:=hT;go_simp
        exact RdN.ok HE.out (itzN.leaf2 hkz)
     ·have HE:=dh (show R=txR b g lv q (it + 1) 3 lw n (lo || decide (lw=31) || !decide (z=shortP n)) bt by rw [HR2.out,HZ.out];exact it_str (by omega))
      clear HR2;go_simp
      refine cl [] [1000] (AC.up LB (text_c 1000 ver b g lv q (it + 1) (lo || decide (lw=31) || !decide (z=shortP n)) bt 3 lw n z hb hq2 (by omega) hn (by omega) hlw2 (by omega))) (by go_simp) ?_;rintro r rows hT;cases ht:txR b g lv q (it + 1) 3 lw n (lo || decide (lw=31) || !decide (z=shortP n)) bt with
      | error e'=>
        rw [ht] at hT;have HE:=dh (HE.out.trans ht);clear ht;obtain ⟨⟨a,⟨kz,rfl⟩,rfl⟩,p2,it2,lo2,bt2,rfl⟩:=hT;go_simp
        exact RdN.err HE.out ⟨_,rfl⟩
      | ok y=>
        obtain ⟨x,p2,it2,lo2,bt2⟩:=y;have hkz:=txR_kids ht;rw [ht] at hT;have HE:=dh (HE.out.trans ht);clear ht;obtain ⟨⟨a,rfl,rfl⟩,rfl⟩:=hT;go_simp
        exact RdN.ok HE.out (itzN.leaf2 hkz)
     ·have HE:=dh (show R=.ok (sevX lw n,q,it + 1,lo || decide (lw=31) || loose7 lw n,bt) by rw [HR2.out];exact it_sev (by omega))
      have hz2:z=zsP lw:=HZ.out;subst hz2;clear HR2 HZ;go_simp
      refine cl [] [1000] (AC.up LB (hsev 1000 ver q (it + 1) (lo || decide (lw=31)) bt lw n (by omega) hn (fun h=>hnum (by omega) (by omega)))) (by go_simp) ?_;rintro r rows ⟨rfl,rfl⟩;go_simp
      exact RdN.ok HE.out (itzN.leaf (sevX_kids lw n))
     ·go_simp
      refine sqc ?_;go_simp;refine ifd (fun h=>?_) (fun h=>?_) <;> go_simp
      ·have HE:=dh (show R=.error 8 by rw [HR2.out];simp only [if_pos (show 8≤lv by omega)];rfl)
       clear HR2;go_simp
       exact RdN.err HE.out ⟨_,rfl⟩
      ·have hcc:(if lw=31 then none else some (cntP 4 n))=cO (decide (lw=31)) (n) 0:=by unfold cO cntP;by_cases h:lw=31 <;> simp [h]
       have HE:=dh (show R=match elR b (decide (lw=31)) 4 (lo || decide (lw=31) || !decide (zsP lw=shortP n)) bt (gl b g (lv + 1) q (it + 1) (if lw=31 then none else some (cntP 4 n)) 8) with | .error e=>.error e | .ok (l,r,j,lo',bt')=>.ok (.mk (4:Nat) 0 [] l,r,j,lo',bt') by rw [HR2.out];simp only [if_neg (show ¬ 8≤lv by omega)];exact it_els (mj:=4) (by omega) hlw2)
       rw [hcc,show zsP lw=z from HZ.out.symm] at HE;clear hcc HR2;refine sqc ?_;go_simp;refine sqc ?_;go_simp;refine gw ?_;go_simp;go_bits;refine cl [] [1000] (AC.merge (elemz_c LB 1000 ver b g (lv + 1) q (it + 1) (lo || decide (lw=31) || !decide (z=shortP n)) bt 4 lw n z hb hq2 (by omega) (by omega) (by omega) (by omega) hlw2 (by omega) (fun k hk=>ih k (by omega)) (decide (lw=31)) rfl (n) 1 rfl (by omega) (by omega))) (by go_simp) ?_;rintro r rows hT;cases ht:elR b (decide (lw=31)) 4 (lo || decide (lw=31) || !decide (z=shortP n)) bt (gl b g (lv + 1) q (it + 1) (cO (decide (lw=31)) (n) 0) 8) with
       | error e'=>
         rw [ht] at hT;have HE:=dh (HE.out.trans (by rw [ht]));have hne:=elR_err ht;clear ht;obtain ⟨⟨a,rfl,rfl⟩,p2,it2,lo2,bt2,rfl⟩:=hT;go_simp
         exact RdN.err HE.out ⟨_,rfl⟩
       | ok y=>
         obtain ⟨l,p2,it2,lo2,bt2⟩:=y;rw [ht] at hT;have HE:=dh (HE.out.trans (by rw [ht]));clear ht;obtain ⟨⟨a,⟨S,hS1,hS2,rfl⟩,rfl⟩,rfl⟩:=hT;go_simp
         exact RdN.ok (x:=.mk (4:Nat) 0 [] l) HE.out (itzN.kids hS1 hS2)
     ·go_simp
      refine sqc ?_;go_simp;refine ifd (fun h=>?_) (fun h=>?_) <;> go_simp
      ·have HE:=dh (show R=.error 8 by rw [HR2.out];simp only [if_pos (show 8≤lv by omega)];rfl)
       clear HR2;go_simp
       exact RdN.err HE.out ⟨_,rfl⟩
      ·have hcc:(if lw=31 then none else some (cntP 5 n))=cO (decide (lw=31)) (2 * n) 0:=by unfold cO cntP;by_cases h:lw=31 <;> simp [h]
       have HE:=dh (show R=match elR b (decide (lw=31)) 5 (lo || decide (lw=31) || !decide (zsP lw=shortP n)) bt (gl b g (lv + 1) q (it + 1) (if lw=31 then none else some (cntP 5 n)) 8) with | .error e=>.error e | .ok (l,r,j,lo',bt')=>.ok (.mk (5:Nat) 0 [] l,r,j,lo',bt') by rw [HR2.out];dsimp only;rw [if_neg (by decide),if_neg (by decide),if_neg (show ¬ 8≤lv by omega)];exact it_els (mj:=5) (by omega) hlw2)
       rw [hcc,show zsP lw=z from HZ.out.symm] at HE;clear hcc HR2;refine sqc ?_;go_simp;refine sqc ?_;go_simp;refine gw ?_;go_simp;go_bits;refine cl [] [1000] (AC.merge (elemz_c LB 1000 ver b g (lv + 1) q (it + 1) (lo || decide (lw=31) || !decide (z=shortP n)) bt 5 lw n z hb hq2 (by omega) (by omega) (by omega) (by omega) hlw2 (by omega) (fun k hk=>ih k (by omega)) (decide (lw=31)) rfl (2 * n) 2 rfl (by omega) (by omega))) (by go_simp) ?_;rintro r rows hT;cases ht:elR b (decide (lw=31)) 5 (lo || decide (lw=31) || !decide (z=shortP n)) bt (gl b g (lv + 1) q (it + 1) (cO (decide (lw=31)) (2 * n) 0) 8) with
       | error e'=>
         rw [ht] at hT;have HE:=dh (HE.out.trans (by rw [ht]));have hne:=elR_err ht;clear ht;obtain ⟨⟨a,rfl,rfl⟩,p2,it2,lo2,bt2,rfl⟩:=hT;go_simp
         exact RdN.err HE.out ⟨_,rfl⟩
       | ok y=>
         obtain ⟨l,p2,it2,lo2,bt2⟩:=y;rw [ht] at hT;have HE:=dh (HE.out.trans (by rw [ht]));clear ht;obtain ⟨⟨a,⟨S,hS1,hS2,rfl⟩,rfl⟩,rfl⟩:=hT;go_simp
         exact RdN.ok (x:=.mk (5:Nat) 0 [] l) HE.out (itzN.kids hS1 hS2)
     ·go_simp
      refine sqc ?_;go_simp;refine ifd (fun h=>?_) (fun h=>?_) <;> go_simp
      ·have HE:=dh (show R=.error 8 by rw [HR2.out];simp only [if_pos (show 8≤lv by omega)];rfl)
       clear HR2;go_simp
       exact RdN.err HE.out ⟨_,rfl⟩
      ·have hcc:(if lw=31 then none else some (cntP 6 n))=cO (decide (lw=31)) (1) 0:=by unfold cO cntP;by_cases h:lw=31 <;> simp [h]
       have HE:=dh (show R=match elR b (decide (lw=31)) 6 (lo || decide (lw=31) || !decide (zsP lw=shortP n)) bt (gl b g (lv + 1) q (it + 1) (if lw=31 then none else some (cntP 6 n)) 8) with | .error e=>.error e | .ok (l,r,j,lo',bt')=>.ok (.mk (6:Nat) n [] l,r,j,lo',bt') by rw [HR2.out];simp only [if_neg (show ¬ 8≤lv by omega)];exact it_els (mj:=6) (by omega) hlw2)
       rw [hcc,show zsP lw=z from HZ.out.symm] at HE;clear hcc HR2;refine sqc ?_;go_simp;refine sqc ?_;go_simp;refine gw ?_;go_simp;go_bits;refine cl [] [1000] (AC.merge (elemz_c LB 1000 ver b g (lv + 1) q (it + 1) (lo || decide (lw=31) || !decide (z=shortP n)) bt 6 lw 1 z hb hq2 (by omega) (by omega) (by omega) (by omega) hlw2 (by omega) (fun k hk=>ih k (by omega)) (decide (lw=31)) rfl (1) 1 rfl (by omega) (by omega))) (by go_simp) ?_;rintro r rows hT;cases ht:elR b (decide (lw=31)) 6 (lo || decide (lw=31) || !decide (z=shortP n)) bt (gl b g (lv + 1) q (it + 1) (cO (decide (lw=31)) (1) 0) 8) with
       | error e'=>
         rw [ht] at hT;have HE:=dh (HE.out.trans (by rw [ht]));have hne:=elR_err ht;clear ht;obtain ⟨⟨a,rfl,rfl⟩,p2,it2,lo2,bt2,rfl⟩:=hT;go_simp
         exact RdN.err HE.out ⟨_,rfl⟩
       | ok y=>
         obtain ⟨l,p2,it2,lo2,bt2⟩:=y;rw [ht] at hT;have HE:=dh (HE.out.trans (by rw [ht]));clear ht;obtain ⟨⟨a,⟨S,hS1,hS2,rfl⟩,rfl⟩,rfl⟩:=hT;go_simp
         exact RdN.ok (x:=.mk (6:Nat) n [] l) HE.out (itzN.kids hS1 hS2)
end Go.Proofs.YtelefkkkccilaaaDoor
namespace Go.Proofs.YtelefkkkccilaaaDoor
open Go.RowKit
theorem validD_app (m:List UInt8):∀ (n:Nat) (l:List UInt8),l.length≤n→Lib.validD l=true→Lib.validD (l ++ m)=Lib.validD m
 | 0,l,hl,_=>by
   have:l=[]:=List.length_eq_zero_iff.1 (by omega);subst this;rfl
 | n + 1,[],_,_=>rfl
 | n + 1,c :: l,hl,hv=>by
   by_cases h0:c.toNat < 128
   ·rw [Lib.validD_cons c l h0] at hv
    rw [List.cons_append,Lib.validD_cons c _ h0];exact validD_app m n l (by simpa using hl) hv
   ·have h1:128≤((c :: l).getD 0 0).toNat:=by simpa using h0
    rw [Lib.validD_lead _ (by simp) h1] at hv;have h2:128≤((c :: l ++ m).getD 0 0).toNat:=by simpa using h0
    rw [Lib.validD_lead _ (by simp) h2];have e0:(c :: l ++ m).getD 0 0=(c :: l).getD 0 0:=rfl;rw [e0];generalize Lib.accLo (Lib.firstT ((c :: l).getD 0 0).toNat / 16)=lo at *;generalize Lib.accHi (Lib.firstT ((c :: l).getD 0 0).toNat / 16)=hi at *;generalize Lib.firstT ((c :: l).getD 0 0).toNat % 8=sz at *;have ge:∀ i,i < (c :: l).length→(c :: l ++ m).getD i 0=(c :: l).getD i 0:=fun i hi=>by
     rw [List.getD_eq_getElem?_getD,List.getD_eq_getElem?_getD,List.getElem?_append_left hi]
    have hL:(c :: l ++ m).length=(c :: l).length + m.length:=by rw [List.length_append]
    rw [hL];generalize hq:(c :: l).length=q at *;have key:∀ k,Lib.checkN q ((c :: l).getD 1 0).toNat ((c :: l).getD 2 0).toNat ((c :: l).getD 3 0).toNat sz lo hi=some k→1 < k∧k≤q∧Lib.checkN (q + m.length) ((c :: l ++ m).getD 1 0).toNat ((c :: l ++ m).getD 2 0).toNat ((c :: l ++ m).getD 3 0).toNat sz lo hi=some k:=by
     intro k hk;unfold Lib.checkN at hk ⊢
     split at hk
     ·rename_i hs
      split at hk
      ·cases hk
      ·rename_i hc
       cases hk
       rw [if_pos hs,ge 1 (by omega),if_neg (by omega)];exact ⟨by omega,by omega,rfl⟩
     ·rename_i hs2
      rw [if_neg hs2]
      split at hk
      ·rename_i hs
       split at hk
       ·cases hk
       ·rename_i hc
        cases hk
        rw [if_pos hs,ge 1 (by omega),ge 2 (by omega),if_neg (by omega)];exact ⟨by omega,by omega,rfl⟩
      ·rename_i hs3
       rw [if_neg hs3]
       split at hk
       ·rename_i hs
        split at hk
        ·cases hk
        ·rename_i hc
         cases hk
         rw [if_pos hs,ge 1 (by omega),ge 2 (by omega),ge 3 (by omega),if_neg (by omega)];exact ⟨by omega,by omega,rfl⟩
       ·cases hk
    split at hv
    ·cases hv
    ·rename_i k hk
     obtain ⟨hk1,hk2,hk3⟩:=key k hk;rw [hk3];simp only;have hd:(c :: l ++ m).drop k=(c :: l).drop k ++ m:=by rw [List.drop_append_of_le_length (by omega)]
     rw [hd];exact validD_app m n _ (by rw [List.length_drop];omega) hv
namespace It
def mapC (l:List It):Option (List It):=if asc .none (flatK (sortK (pairsK l)))=true then some (flatK (sortK (pairsK l))) else Option.none
mutual
def srt:It→Option It
 | mk k n b ks=>match srts ks with
   | Option.none=>Option.none
   | some l=>if k=5 then (mapC l).map (mk 5 n b ·) else some (mk k n b l)
def srts:List It→Option (List It)
 | []=>some []
 | x :: xs=>match srt x with
   | Option.none=>Option.none
   | some y=>match srts xs with
     | Option.none=>Option.none
     | some ys=>some (y :: ys)
end
theorem flatK_pairsK:∀ l:List It,l.length % 2=0→flatK (pairsK l)=l
 | [],_=>rfl
 | [_],h=>by simp at h
 | k :: v :: l,h=>by
   show k :: v :: flatK (pairsK l)=_
   rw [flatK_pairsK l (by simp only [List.length_cons] at h;omega)]
theorem flatK_len:∀ l:List KV,(flatK l).length=2 * l.length
 | []=>rfl
 | p :: l=>by simp [flatK,flatK_len l];omega
theorem nodesL_flatK:∀ l:List KV,nodesL (flatK l)=(l.map fun p=>p.1.nodes + p.2.nodes).sum
 | []=>rfl
 | p :: l=>by simp [flatK,nodesL,nodesL_flatK l];omega
theorem encs_flatK:∀ l:List KV,(encs (flatK l)).length=(l.map fun p=>p.1.enc.length + p.2.enc.length).sum
 | []=>rfl
 | p :: l=>by simp [flatK,encs,encs_flatK l];omega
theorem wfs_flatK {d:Nat}:∀ l:List KV,wfs d (flatK l)=true↔∀ p ∈ l,wf d p.1=true∧wf d p.2=true
 | []=>by simp [flatK,wfs]
 | p :: l=>by simp [flatK,wfs,wfs_flatK l,and_assoc]
theorem mapC_ok {l m:List It} (h:mapC l=some m) (he:l.length % 2=0):m.length=l.length∧nodesL m=nodesL l∧(encs m).length=(encs l).length∧(∀ d,wfs d l=true→wfs d m=true)∧asc .none m=true:=by
 unfold mapC at h
 split at h
 ·rename_i ha
  cases h
  have hp:=sortK_perm (pairsK l);have hl:=flatK_pairsK l he;refine ⟨?_,?_,?_,fun d hw=>?_,ha⟩
  ·rw [flatK_len,hp.length_eq,← flatK_len,hl]
  ·rw [nodesL_flatK,(hp.map _).sum_nat,← nodesL_flatK,hl]
  ·rw [encs_flatK,(hp.map _).sum_nat,← encs_flatK,hl]
  ·rw [wfs_flatK]
   rw [← hl,wfs_flatK] at hw;exact fun p hp2=>hw p (hp.mem_iff.1 hp2)
 ·cases h
theorem srts_len:∀ {l m:List It},srts l=some m→m.length=l.length
 | [],m,h=>by rw [srts] at h;cases h;rfl
 | x :: xs,m,h=>by
   rw [srts] at h
   split at h
   ·cases h
   ·split at h
    ·cases h
    ·rename_i h2
     cases h
     simp [srts_len h2]
end It
mutual
def Gt.cn (b:List UInt8):Gt→Option It
 | .mk mj lw a en n sub=>if mj=4∨mj=5∨mj=6 then (match Gt.cns b sub with
  | none=>none
  | some l=>if mj=5 then (It.mapC l).map (.mk 5 0 [] ·) else some (.mk mj (if mj=6 then n else 0) [] l)) else some (Gt.it b (.mk mj lw a en n sub))
def Gt.cns (b:List UInt8):List Gt→Option (List It)
 | []=>some []
 | t :: l=>match Gt.cn b t with
   | none=>none
   | some y=>match Gt.cns b l with
     | none=>none
     | some ys=>some (y :: ys)
end
mutual
theorem Gt.cn_srt (b:List UInt8):∀ t:Gt,t.ok→t.cn b=(t.it b).srt
 | .mk mj lw a en n sub,⟨h1,_,_,_,_,_,h7⟩=>by
   rw [Gt.cn];by_cases hm:mj=4∨mj=5∨mj=6
   ·rw [if_pos hm,Gt.it]
    simp only [if_neg (show ¬ (mj=2∨mj=3) by omega),if_neg (show ¬ mj < 2 by omega),if_neg (show ¬ mj=7 by omega)];rw [It.srt,Gt.cns_srts b sub h7];cases It.srts (Gt.its b sub) with
    | none=>rfl
    | some l=>
      simp only;by_cases h5:mj=5
      ·subst h5;rfl
      ·rw [if_neg h5,if_neg (show ¬ ((mj:Nat):Int)=5 by omega)]
   ·rw [if_neg hm,Gt.it]
    split
    ·rw [It.srt,It.srts];simp only;rw [if_neg (show ¬ ((mj:Nat):Int)=5 by omega)]
    split
    ·rw [It.srt,It.srts];simp only;rw [if_neg (show ¬ ((mj:Nat):Int)=5 by omega)]
    split
    ·split
     ·rw [It.srt,It.srts];simp only;rw [if_neg (by decide)]
     ·rw [It.srt,It.srts];simp only;rw [if_neg (by decide)]
    ·omega
theorem Gt.cns_srts (b:List UInt8):∀ l:List Gt,Gt.oks l→Gt.cns b l=It.srts (Gt.its b l)
 | [],_=>rfl
 | t :: l,h=>by
   rw [Gt.cns,Gt.its,It.srts,Gt.cn_srt b t h.1,Gt.cns_srts b l h.2]
end
theorem hdP_q {b:List UInt8} {p it ck mj lw n z q:Nat} (h:hdP b p it ck=.ok (mj,lw,n,z,q)):q=p + zsP lw∧(mj=7→lw=24→32≤n):=by
 unfold hdP at h;generalize (b.getD p 0).toNat=c at h
 split at h;· cases h
 split at h;· cases h
 split at h;· cases h
 split at h;· cases h
 split at h
 ·injection h with h;simp only [Prod.mk.injEq] at h;obtain ⟨rfl,rfl,rfl,rfl,rfl⟩:=h
  exact ⟨by unfold zsP;rw [if_pos (.inr rfl)],fun _ h=>by omega⟩
 split at h
 ·injection h with h;simp only [Prod.mk.injEq] at h;obtain ⟨rfl,rfl,rfl,rfl,rfl⟩:=h
  rename_i h6
  exact ⟨by unfold zsP;rw [if_pos (.inl h6)],fun _ h=>by omega⟩
 split at h;· cases h
 split at h;· cases h
 rename_i h5 h6 h7 h8
 injection h with h;simp only [Prod.mk.injEq] at h;obtain ⟨rfl,rfl,rfl,rfl,rfl⟩:=h
 refine ⟨by unfold zsP;rw [if_neg (by omega)];omega,fun a1 a2=>?_⟩;exact Nat.le_of_not_lt fun hlt=>h8 ⟨a1,a2,hlt⟩
theorem short_zs {lw n:Nat} (hl:lw < 28) (h1:lw < 24→n=lw) (h2:24≤lw→n < 256 ^ 2 ^ (lw - 24)):shortP n≤zsP lw:=by
 unfold zsP;by_cases h:lw < 24
 ·rw [if_pos (.inl h),h1 h];unfold shortP;rw [if_pos h];exact Nat.le_refl _
 ·rw [if_neg (by omega)]
  have h2:=h2 (by omega);unfold shortP;rcases (show lw=24∨lw=25∨lw=26∨lw=27 by omega) with rfl | rfl | rfl | rfl
  ·replace h2:n < 256:=h2
   show _≤2
   repeat' split
   all_goals omega
  ·replace h2:n < 65536:=h2
   show _≤3
   repeat' split
   all_goals omega
  ·replace h2:n < 4294967296:=h2
   show _≤5
   repeat' split
   all_goals omega
  ·show _≤9
   repeat' split
   all_goals omega
theorem head_short (m n:Nat):(It.head m n).length=shortP n:=by rw [It.head_length];rfl
theorem flt_short {lw n:Nat} (h24:24 < lw) (hl:lw < 28) (h5:lw=25→n < 65536) (h6:lw=26→n < 4294967296):(It.flt (valP lw n)).length≤zsP lw:=by
 have nan3:(It.flt Fl.nan).length=3:=flt_nan;have any9:∀ v,(It.flt v).length≤9:=fun v=>by
  unfold It.flt
  split
  ·decide
  ·split
   ·simp [It.be_length]
   ·split <;> simp [It.be_length]
 rcases (show lw=25∨lw=26∨lw=27 by omega) with rfl | rfl | rfl
 ·show _≤3
  unfold valP;rw [if_pos rfl]
  split
  ·rw [nan3];exact Nat.le_refl _
  ·rename_i hN
   obtain ⟨a,_,c⟩:=Fl.widenH_narrow (h5 rfl) (by simpa using hN);unfold It.flt;rw [c,if_neg Bool.false_ne_true,a];simp [It.be_length]
 ·show _≤5
  unfold valP;rw [if_neg (by omega),if_pos rfl]
  split
  ·rw [nan3];omega
  ·rename_i hN
   obtain ⟨a,_,c⟩:=Fl.widenS_narrow (h6 rfl) (by simpa using hN);unfold It.flt;rw [c,if_neg Bool.false_ne_true,a]
   split <;> simp [It.be_length]
 ·exact any9 _
theorem Gt.cns_len {b:List UInt8}:∀ {l:List Gt} {m:List It},Gt.cns b l=some m→m.length=l.length
 | [],m,h=>by rw [Gt.cns] at h;cases h;rfl
 | t :: l,m,h=>by
   rw [Gt.cns] at h
   split at h
   ·cases h
   ·split at h
    ·cases h
    ·rename_i h2
     cases h
     simp [Gt.cns_len h2]
theorem gl_cnt {b:List UInt8}:∀ {g lv p it k ck:Nat} {l:List Gt} {q i:Nat},gl b g lv p it (some k) ck=.ok (l,q,i)→l.length=k
 | 0,_,_,_,_,_,_,_,_,h=>by rw [gl] at h;cases h
 | g + 1,lv,p,it,k,ck,l,q,i,h=>by
   rw [gl] at h
   split at h
   ·rename_i h0
    cases h0;cases h;rfl
   ·rename_i h0
    split at h
    ·rename_i h1;cases h1.1
    ·split at h
     ·cases h
     ·rename_i t r j hg
      rw [Option.map_some] at h
      split at h
      ·cases h
      ·rename_i m u v hl
       cases h
       have:=gl_cnt hl;simp only [List.length_cons];have:k≠0:=fun e=>h0 (by rw [e])
       omega
theorem gl_str {b:List UInt8} {mj:Nat} (hm:mj=2∨mj=3):∀ {g lv p it:Nat} {l:List Gt} {q i:Nat},gl b g lv p it none mj=.ok (l,q,i)→it≤256→p≤b.length→(Gt.strs b l).length + l.length + p + 1≤q∧(Gt.bads b l=false→mj=3→Lib.validD (Gt.strs b l)=true)∧(l=[]→Gt.strs b l=[])
 | 0,_,_,_,_,_,_,h,_,_=>by rw [gl] at h;cases h
 | 1,lv,p,it,l,q,i,h,hi,hp=>by
   rw [gl] at h
   split at h
   ·rename_i h0;cases h0
   ·split at h
    ·cases h;exact ⟨by simp [Gt.strs],fun _ _=>rfl,fun _=>rfl⟩
    ·rw [gi] at h;cases h
 | g + 2,lv,p,it,l,q,i,h,hi,hp=>by
   by_cases hb:brk b p=true
   ·rw [gl_brk hb] at h
    cases h
    exact ⟨by simp [Gt.strs],fun _ _=>rfl,fun _=>rfl⟩
   ·have hb:brk b p=false:=by simpa using hb
    rw [gl_chunk hm hb] at h
    split at h
    ·cases h
    ·rename_i x mj' lw n z r hh
     obtain ⟨h1,h2,h3,h4,h5,h6,h7,h8,h9,_⟩:=hdP_ok hh;obtain ⟨rfl,hl31⟩:=h9 (by omega);have h7:=h7 (by omega)
     split at h
     ·rename_i hn
      split at h
      ·cases h
      ·rename_i m u v hl
       cases h
       obtain ⟨a1,a2,a3⟩:=gl_str hm hl (by omega) (by omega);have e1:Gt.strs b (.mk mj' lw p (r + n) n [] :: m)=(b.drop r).take n ++ Gt.strs b m:=by
        show (b.drop (r + n - n)).take n ++ _=_
        rw [show r + n - n=r by omega];rfl
       have e2:((b.drop r).take n).length=n:=by rw [List.length_take,List.length_drop];omega
       refine ⟨by rw [e1,List.length_append,e2,List.length_cons];omega,fun hbd hm3=>?_,fun h=>by cases h⟩;rw [Gt.bads,Gt.bad_flat hl31,Bool.or_eq_false_iff] at hbd;have hv:Lib.validD ((b.drop r).take n)=true:=by
        have:=hbd.1;rw [hm3,show r + n - n=r by omega] at this;simpa using this
       rw [e1,validD_app _ _ _ (Nat.le_refl _) hv];exact a2 hbd.2 hm3
     ·cases h
mutual
theorem gi_cn {b:List UInt8} (hL:b.length≤4096):∀ {g lv p it ck:Nat} {t:Gt} {q i:Nat} {x:It},gi b g lv p it ck=.ok (t,q,i)→it≤256→p≤b.length→lv≤8→t.bad b=false→t.cn b=some x→It.wf (8 - lv) x=true∧x.nodes + it≤i∧x.enc.length + p≤q
 | 0,_,_,_,_,_,_,_,_,h,_,_,_,_,_=>by rw [gi] at h;cases h
 | g + 1,lv,p,it,ck,t,q,i,x,h,hi,hp,hlv,hbd,hx=>by
   rw [gi] at h;cases hh:hdP b p it ck with
   | error e=>rw [hh] at h;cases h
   | ok y=>
     obtain ⟨mj,lw,n,z,r⟩:=y;obtain ⟨h1,h2,h3,h4,h5,h6,h7,h8,h9,h310,hz,h31,hn24⟩:=hdP_ok hh;obtain ⟨hq,h732⟩:=hdP_q hh;have h7:=h7 (by omega);have hnum:24≤lw→lw≠31→n < 256 ^ 2 ^ (lw - 24):=fun a c=>hdP_num hh a c
     have hsz:lw≠31→shortP n≤zsP lw:=fun h=>short_zs (by omega) hn24 fun a=>hnum a h
     rw [hh] at h;simp only at h
     split at h
     ·rename_i hm
      split at h
      ·rename_i hl
       subst hl
       split at h
       ·cases h
       ·rename_i l u j hg
        injection h with h;simp only [Prod.mk.injEq] at h
        obtain ⟨rfl,rfl,rfl⟩:=h;have hbd2:=gl_bd hg (by omega) h7;obtain ⟨a1,a2,a3⟩:=gl_str hm hg (by omega) h7;have hz1:zsP 31=1:=rfl;rw [Gt.cn,if_neg (by omega)] at hx;cases hx
        have hit:Gt.it b (.mk mj 31 p u 0 l)=.mk mj 0 (Gt.strs b l) []:=by rw [Gt.it,if_pos hm,if_pos rfl]
        rw [hit];have hbl:Gt.bads b l=false:=by
         rw [Gt.bad,Bool.or_eq_false_iff] at hbd;exact hbd.2
        have hen:It.enc (.mk mj 0 (Gt.strs b l) [])=It.head mj (Gt.strs b l).length ++ Gt.strs b l:=by
         unfold It.enc;rw [if_neg (by omega),if_pos (by omega)];rfl
        refine ⟨?_,by simp [It.nodes,It.nodesL];omega,?_⟩
        ·rcases hm with rfl | rfl
         ·unfold It.wf;simp
         ·unfold It.wf;simp [a2 hbl rfl]
        ·rw [hen,List.length_append,head_short]
         have hsp:shortP (Gt.strs b l).length≤2 + l.length:=by
          unfold shortP;by_cases h0:l=[]
          ·rw [a3 h0];simp;omega
          ·have:=List.length_pos_iff.2 h0
           repeat' split
           all_goals omega
         omega
      ·rename_i hl
       split at h
       ·rename_i hn
        injection h with h;simp only [Prod.mk.injEq] at h
        obtain ⟨rfl,rfl,rfl⟩:=h;rw [Gt.cn,if_neg (by omega)] at hx;cases hx
        have e1:r + n - n=r:=by omega
        have e2:((b.drop r).take n).length=n:=by rw [List.length_take,List.length_drop];omega
        have hit:Gt.it b (.mk mj lw p (r + n) n [])=.mk mj 0 ((b.drop r).take n) []:=by rw [Gt.it,if_pos hm,if_neg hl,e1]
        rw [hit];rw [Gt.bad_flat hl,e1] at hbd;have hen:It.enc (.mk mj 0 ((b.drop r).take n) [])=It.head mj n ++ (b.drop r).take n:=by
         unfold It.enc;rw [if_neg (by omega),if_pos (by omega),e2];rfl
        refine ⟨?_,by simp [It.nodes,It.nodesL];omega,?_⟩
        ·rcases hm with rfl | rfl
         ·unfold It.wf;simp
         ·unfold It.wf
          have:Lib.validD ((b.drop r).take n)=true:=by simpa using hbd
          simp [this]
        ·rw [hen,List.length_append,head_short,e2]
         have:=hsz hl;omega
       ·cases h
     ·rename_i hm
      split at h
      ·rename_i hm2
       injection h with h;simp only [Prod.mk.injEq] at h
       obtain ⟨rfl,rfl,rfl⟩:=h;have hl31:lw≠31:=fun e=>by have:=h310 e;omega
       rw [Gt.cn,if_neg (by omega)] at hx;cases hx
       rcases hm2 with hm2 | rfl
       ·have hit:Gt.it b (.mk mj lw p r n [])=.mk mj n [] []:=by rw [Gt.it,if_neg hm,if_pos hm2]
        rw [hit];have hen:It.enc (.mk mj n [] [])=It.head mj n:=by
         unfold It.enc;rw [if_pos (by omega)];rfl
        refine ⟨?_,by simp [It.nodes,It.nodesL];omega,by rw [hen,head_short];have:=hsz hl31;omega⟩;unfold It.wf;rw [if_pos (by omega)];simp [h5]
       ·have hit:Gt.it b (.mk 7 lw p r n [])=if 25≤lw then .mk 8 (valP lw n) [] [] else .mk 7 n [] []:=by rw [Gt.it,if_neg (by omega),if_neg (by omega),if_pos rfl]
        rw [hit];have h25:lw=25→n < 65536:=fun e=>by subst e;exact hnum (by omega) (by omega)
        have h26:lw=26→n < 4294967296:=fun e=>by subst e;exact hnum (by omega) (by omega)
        by_cases hlw:25≤lw
        ·rw [if_pos hlw]
         have hv:=valP_ok (lw:=lw) h5 h25 h26;have hfs:=flt_short (n:=n) (show 24 < lw by omega) (by omega) h25 h26;have hvd:=flt_valid hv.1 hv.2;have hw:It.wf (8 - lv) (.mk 8 (valP lw n) [] [])=true:=by
          unfold It.wf;rcases hv.2 with h | h
          ·simp [hv.1,h]
          ·rw [h];simp;decide
         refine ⟨hw,by simp [It.nodes,It.nodesL];omega,?_⟩;rw [show It.enc (.mk 8 (valP lw n) [] [])=It.flt (valP lw n) by unfold It.enc;rfl];omega
        ·rw [if_neg hlw]
         have hn2:n < 24∨32≤n∧n < 256:=by
          by_cases h24:lw < 24
          ·left;rw [hn24 h24];exact h24
          ·obtain rfl:lw=24:=by omega
           have:=hnum (by omega) (by omega);exact .inr ⟨h732 rfl rfl,this⟩
         refine ⟨?_,by simp [It.nodes,It.nodesL];omega,?_⟩
         ·unfold It.wf
          have:n < 18446744073709551616:=h5;simp [this];omega
         ·have hen:(It.enc (.mk 7 n [] [])).length=if n < 24 then 1 else 2:=by
           unfold It.enc;rw [if_neg (by omega),if_neg (by omega),if_neg (by omega),if_neg (by omega),if_neg (by omega),if_pos rfl]
           split <;> rfl
          rw [hen];by_cases h24:lw < 24
          ·rw [if_pos (by rw [hn24 h24];exact h24)];omega
          ·obtain rfl:lw=24:=by omega
           have:zsP 24=2:=rfl
           split <;> omega
      ·rename_i hm2
       split at h
       ·cases h
       ·rename_i hlv8
        split at h
        ·cases h
        ·rename_i l u j hg
         split at h
         ·cases h
         ·rename_i hev
          injection h with h;simp only [Prod.mk.injEq] at h
          obtain ⟨rfl,rfl,rfl⟩:=h;have hbl:Gt.bads b l=false:=by
           rw [Gt.bad,Bool.or_eq_false_iff] at hbd;exact hbd.2
          have hbd2:=gl_bd hg (by omega) h7;rw [Gt.cn,if_pos (by omega)] at hx;cases hc:Gt.cns b l with
          | none=>rw [hc] at hx;cases hx
          | some m=>
            rw [hc] at hx;simp only at hx;have hml:=Gt.cns_len hc;obtain ⟨a1,a2,a3⟩:=gl_cn hL hg (by omega) h7 (by omega) hbl hc;have hlen:m.length≤It.nodesL m:=It.length_le_nodesL m;have hcount:lw≠31→l.length=cntP mj n:=fun hl=>by rw [if_neg hl] at hg;exact gl_cnt hg
            have hopen:lw=31→(It.encs m).length + r + 1≤u:=fun hl=>by rw [if_pos hl,if_pos rfl] at a3;exact a3
            have hdef:lw≠31→(It.encs m).length + r≤u:=fun hl=>by rw [if_neg hl] at a3;simpa using a3
            have hz31:zsP 31=1:=rfl;have h8lv:8 - (lv + 1)=8 - lv - 1:=by omega
            rw [h8lv] at a1;rcases (show mj=4∨mj=5∨mj=6 by omega) with rfl | rfl | rfl
            ·rw [if_neg (by omega),if_neg (by omega)] at hx
             cases hx
             have hen:(It.enc (.mk (4:Nat) 0 [] m)).length=shortP m.length + (It.encs m).length:=by
              rw [← head_short 4,← List.length_append];rfl
             refine ⟨?_,by simp [It.nodes];omega,?_⟩
             ·unfold It.wf
              simp [a1];omega
             ·rw [hen]
              by_cases hl:lw=31
              ·have:=hopen hl
               have hs2:shortP m.length≤2:=by unfold shortP;repeat' split
                                              all_goals omega
               rw [hl,hz31] at hq;omega
              ·have h10:=hdef hl
               have h11:=hcount hl;have h12:=hsz hl
               replace h11:l.length=n:=h11
               rw [hml,h11];omega
            ·rw [if_pos rfl] at hx
             have hevm:m.length % 2=0:=by
              rw [hml];by_cases hl:lw=31
              ·have:¬ l.length % 2=1:=fun h=>hev ⟨hl,rfl,h⟩
               omega
              ·have h11:=hcount hl
               replace h11:l.length=2 * n:=h11
               omega
             cases hmc:It.mapC m with
             | none=>rw [hmc] at hx;cases hx
             | some m2=>
               rw [hmc] at hx;cases hx
               obtain ⟨c1,c2,c3,c4,c5⟩:=It.mapC_ok hmc hevm;have hen:(It.enc (.mk (5:Nat) 0 [] m2)).length=shortP (m2.length / 2) + (It.encs m2).length:=by
                rw [← head_short 5,← List.length_append];rfl
               refine ⟨?_,by show 1 + It.nodesL m2 + it≤_;omega,?_⟩
               ·show It.wf (8 - lv) (.mk 5 0 [] m2)=true
                unfold It.wf;simp [c4 _ a1,c5];omega
               ·show (It.enc (.mk (5:Nat) 0 [] m2)).length + p≤_
                rw [hen,c1,c3];by_cases hl:lw=31
                ·have:=hopen hl
                 have hs2:shortP (m.length / 2)≤2:=by unfold shortP;repeat' split
                                                      all_goals omega
                 rw [hl,hz31] at hq;omega
                ·have h10:=hdef hl
                 have h11:=hcount hl;have h12:=hsz hl
                 replace h11:l.length=2 * n:=h11
                 rw [hml,h11,show 2 * n / 2=n by omega];omega
            ·rw [if_neg (by omega),if_pos rfl] at hx
             cases hx
             have hl:lw≠31:=fun e=>by have:=h310 e;omega
             have hen:(It.enc (.mk (6:Nat) n [] m)).length=shortP n + (It.encs m).length:=by
              rw [← head_short 6,← List.length_append];rfl
             have h10:=hdef hl;have h11:=hcount hl;have h12:=hsz hl
             replace h11:l.length=1:=h11
             refine ⟨?_,by simp [It.nodes];omega,by rw [hen];omega⟩;unfold It.wf;simp [a1,h5,hml,h11];omega
theorem gl_cn {b:List UInt8} (hL:b.length≤4096):∀ {g lv p it:Nat} {c:Option Nat} {ck:Nat} {l:List Gt} {q i:Nat} {m:List It},gl b g lv p it c ck=.ok (l,q,i)→it≤256→p≤b.length→lv≤8→Gt.bads b l=false→Gt.cns b l=some m→It.wfs (8 - lv) m=true∧It.nodesL m + it≤i∧(It.encs m).length + p + (if c=none then 1 else 0)≤q
 | 0,_,_,_,_,_,_,_,_,_,h,_,_,_,_,_=>by rw [gl] at h;cases h
 | g + 1,lv,p,it,c,ck,l,q,i,m,h,hi,hp,hlv,hbd,hm=>by
   rw [gl] at h
   split at h
   ·rename_i h0
    injection h with h;simp only [Prod.mk.injEq] at h;obtain ⟨rfl,rfl,rfl⟩:=h
    rw [Gt.cns] at hm;cases hm;rw [h0];exact ⟨rfl,by simp [It.nodesL],by simp [It.encs]⟩
   ·split at h
    ·rename_i h0
     injection h with h;simp only [Prod.mk.injEq] at h;obtain ⟨rfl,rfl,rfl⟩:=h
     rw [Gt.cns] at hm;cases hm;rw [h0.1];exact ⟨rfl,by simp [It.nodesL],by simp [It.encs]⟩
    ·cases hg:gi b g lv p it ck with
     | error e=>rw [hg] at h;cases h
     | ok x=>
       obtain ⟨t,r,j⟩:=x;have h1:=gi_bd hg hi hp;rw [hg] at h;simp only at h;cases hl:gl b g lv r j (c.map (· - 1)) ck with
       | error e=>rw [hl] at h;cases h
       | ok y=>
         obtain ⟨m',u,k⟩:=y;rw [hl] at h;injection h with h;simp only [Prod.mk.injEq] at h;obtain ⟨rfl,rfl,rfl⟩:=h
         rw [Gt.bads,Bool.or_eq_false_iff] at hbd;rw [Gt.cns] at hm;cases hx:Gt.cn b t with
         | none=>rw [hx] at hm;cases hm
         | some y=>
           rw [hx] at hm;simp only at hm;cases hxs:Gt.cns b m' with
           | none=>rw [hxs] at hm;cases hm
           | some ys=>
             rw [hxs] at hm;cases hm
             obtain ⟨a1,a2,a3⟩:=gi_cn hL hg hi hp hlv hbd.1 hx;obtain ⟨c1,c2,c3⟩:=gl_cn hL hl (by omega) (by omega) hlv hbd.2 hxs;refine ⟨by simp [It.wfs,a1,c1],by simp [It.nodesL];omega,?_⟩;simp only [It.encs,List.length_append];by_cases hcn:c=none
             ·rw [hcn] at c3 ⊢
              simp at c3 ⊢;omega
             ·have:¬ c.map (· - 1)=none:=by cases c with
               | none=>exact absurd rfl hcn
               | some k=>simp
              rw [if_neg this] at c3;rw [if_neg hcn];omega
end
end Go.Proofs.YtelefkkkccilaaaDoor
namespace Go.Proofs.YtelefkkkccilaaaDoor
open Am Go.RowKit
set_option maxRecDepth 100000
namespace It
mutual
def sm:It→It→Bool
 | mk k n b ks,mk k' n' b' ks'=>decide (k=k') && decide (n=n') && decide (b=b') && decide (ks.length=ks'.length) && sms ks ks'
def sms:List It→List It→Bool
 | x :: xs,y :: ys=>sm x y && sms xs ys
 | _,_=>true
end
mutual
theorem sm_iff:∀ {x y:It},sm x y=true↔x=y
 | mk k n b ks,mk k' n' b' ks'=>by
   rw [sm];simp only [Bool.and_eq_true,decide_eq_true_eq,mk.injEq];constructor
   ·rintro ⟨⟨⟨⟨rfl,rfl⟩,rfl⟩,hl⟩,h⟩
    exact ⟨rfl,rfl,rfl,(sms_iff hl).1 h⟩
   ·rintro ⟨rfl,rfl,rfl,rfl⟩
    exact ⟨⟨⟨⟨rfl,rfl⟩,rfl⟩,rfl⟩,(sms_iff rfl).2 rfl⟩
theorem sms_iff:∀ {l m:List It},l.length=m.length→(sms l m=true↔l=m)
 | [],[],_=>by simp [sms]
 | x :: xs,y :: ys,h=>by
   rw [sms,Bool.and_eq_true,sm_iff,sms_iff (by simpa using h)];simp
 | [],_ :: _,h=>by simp at h
 | _ :: _,[],h=>by simp at h
end
end It
section
variable {X:Ev}
set_option maxHeartbeats 4000000 in
theorem same_c (d:Nat):∀ x y:It,x.nodes≤d→x.gsz≤1000000000→y.gsz≤1000000000→AC Tryd.prog X 11 [itS x,itS y] [] fun r rows=>r=bov (It.sm x y)∧rows=[]:=by
 induction d with
 | zero=>intro x y h;cases x;simp [It.nodes] at h
 | succ d ih=>
   rintro ⟨k,n,b,ks⟩ ⟨k',n',b',ks'⟩ hd hx hy;have IH:=dh ih;clear ih;have hb:b.length≤1000000000:=by rw [It.gsz] at hx;omega
   have hb':b'.length≤1000000000:=by rw [It.gsz] at hy;omega
   have HS:=dh (It.sm.eq_1 k n b ks k' n' b' ks');generalize It.sm (.mk k n b ks) (.mk k' n' b' ks')=P at *;refine AC.bodyW false Tryd.func11 rfl Tryd.call11 Tryd.ntmps11 (by simp) fun e nx=>?_
   go_simp
   refine sqc ?_;go_simp;refine ct (α:=Unit) (fun _=>Hid (P=It.sms ks ks')∧ks.length=ks'.length) (fun _=>⟨[(2,.ptr 2 nx 0),(3,.ptr 3 (nx + 1) 0),(4,.v (.bool false))],[(2,⟨nx,31,4,[iv k,uv n,bsl b,isl ks]⟩),(3,⟨nx + 1,31,4,[iv k',uv n',bsl b',isl ks']⟩)],nx + 1 + 1,[],53⟩) [] (gw ?_) ?_
   ·go_simp
    refine gdn (fun h1=>?_) (fun h1=>?_)
    ·have HE:=dh (show P=false by rw [HS.out,decide_eq_false h1];rfl)
     go_simp
     exact HE.out
    obtain rfl:k=k':=h1;go_simp
    refine gdn (fun h2=>?_) (fun h2=>?_)
    ·have HE:=dh (show P=false by rw [HS.out,decide_eq_false (show ¬ n=n' by omega)];simp)
     go_simp
     exact HE.out
    obtain rfl:n=n':=by omega
    go_simp
    have hcp:=rcmp_c X b b' (by omega) (by omega);have hce:It.cmpB b b'=0↔b=b':=⟨It.cmpB_eq,fun e=>by rw [e,It.cmpB_self]⟩;generalize It.cmpB b b'=C at *;refine cl [] [] hcp (by go_simp) ?_;rintro r rows ⟨rfl,rfl⟩;go_simp
    refine gdn (fun h3=>?_) (fun h3=>?_)
    ·have HE:=dh (show P=false by rw [HS.out,decide_eq_false (show ¬ b=b' from h3)];simp)
     go_simp
     exact HE.out
    obtain rfl:b=b':=h3;clear hce hcp;go_simp
    refine ifn (fun h4=>?_) (fun h4=>?_)
    ·have HE:=dh (show P=false by rw [HS.out,decide_eq_false (show ¬ ks.length=ks'.length by omega)];simp)
     go_simp
     exact HE.out
    ·have hl:ks.length=ks'.length:=by omega
     have HE:=dh (show P=It.sms ks ks' by rw [HS.out,decide_eq_true hl];simp);have HL:=dh hl;clear hl;go_simp
     exact HL.out
   ·rintro - ⟨hP,hlen⟩
    replace hP:Hid (P=It.sms ks ks'):=hP
    replace hlen:ks.length=ks'.length:=hlen
    have HL:=dh hlen;clear hlen HS;have hxk:It.gszs ks≤1000000000:=by rw [It.gsz] at hx;omega
    have hyk:It.gszs ks'≤1000000000:=by rw [It.gsz] at hy;omega
    have hkl:ks.length≤1000000000:=Nat.le_trans (It.gszs_len ks) hxk;have hdk:It.nodesL ks≤d:=by simp only [It.nodes] at hd;omega
    refine sqc ?_;go_simp;refine lp (α:=Nat × Nat) (fun x=>x.2≤ks.length∧Hid (P=It.sms (ks.drop x.2) (ks'.drop x.2))) (fun x=>⟨[(2,.ptr 2 nx 0),(3,.ptr 3 (nx + 1) 0),(4,.v (.bool false)),(37,isl ks),(38,iv ks.length),(39,iv x.2)],[(2,⟨nx,31,4,[iv k,uv n,bsl b,isl ks]⟩),(3,⟨nx + 1,31,4,[iv k',uv n',bsl b',isl ks']⟩)],x.1,[],53⟩) (fun x=>ks.length - x.2) [] [] (nx + 1 + 1,0) ?_ ?_
    ·go_simp
     skip
    ·rintro ⟨u,i⟩ ⟨hi,hPi⟩
     replace hi:i≤ks.length:=hi
     replace hPi:Hid (P=It.sms (ks.drop i) (ks'.drop i)):=hPi
     refine gw ?_;go_simp
     refine ifd (fun h=>?_) (fun h=>?_) <;> go_simp
     ·have hik:i < ks.length:=by omega
      have hik':i < ks'.length:=by rw [← HL.out];exact hik
      go_simp
      have h1:=It.nodes_in (List.getElem_mem hik);have h2:=It.gszs_in hik;have h3:=It.gszs_in hik';have HC:=IH.out ks[i] ks'[i] (by omega) (by omega) (by omega);have hPi:=dh (hPi.out.trans (show It.sms (ks.drop i) (ks'.drop i)=(It.sm ks[i] ks'[i] && It.sms (ks.drop (i + 1)) (ks'.drop (i + 1))) by
       rw [List.drop_eq_getElem_cons hik,List.drop_eq_getElem_cons hik',It.sms]))
      clear h1 h2 h3;refine rg hmx (by kernel_rfl) ?_;go_simp
      generalize It.sm ks[i] ks'[i]=B at *;refine cl [] [] HC (by go_simp) ?_;rintro r rows ⟨rfl,rfl⟩;go_simp
      cases B with
      | false=>
        go_simp
        rw [hPi.out];rfl
      | true=>
        have hPi:=dh (hPi.out.trans (Bool.true_and _));go_simp;go_bits
        exact ⟨_,i + 1,⟨by omega,hPi⟩,by omega,Nat.le_refl _,by omega⟩
     ·have hE:=hPi.out
      rw [show i=ks.length by omega,List.drop_length,It.sms] at hE;have HE:=dh hE;clear hE hPi;refine gw ?_;go_simp;rw [HE.out];intro x xs y ys e;cases e
end
section
variable (mj lw a e n:Nat) (l:List Gt)
@[go_sem] theorem gt_mj:(Gt.mk mj lw a e n l).mj=mj:=rfl
@[go_sem] theorem gt_lw:(Gt.mk mj lw a e n l).lw=lw:=rfl
@[go_sem] theorem gt_beg:(Gt.mk mj lw a e n l).beg=a:=rfl
@[go_sem] theorem gt_en:(Gt.mk mj lw a e n l).en=e:=rfl
@[go_sem] theorem gt_n:(Gt.mk mj lw a e n l).n=n:=rfl
@[go_sem] theorem gt_sub:(Gt.mk mj lw a e n l).sub=l:=rfl
end
end Go.Proofs.YtelefkkkccilaaaDoor
namespace Go.Proofs.YtelefkkkccilaaaDoor
open Am Go.RowKit
set_option maxRecDepth 100000
namespace Am
def cln:SV→Bool
 | .own .. | .ptr .. | .agg _ | .tup _=>false
 | _=>true
theorem holds.cln {g:Cx} {w:World}:∀ {s:SV} {v:Value},cln s=true→holds g w s v→holds g.pure w s v
 | .any,_,_,_=>trivial
 | .v _,_,_,h=>h
 | .sl ..,_,_,h=>h
 | .rp _,_,_,h=>h
 | .s _,_,_,h=>h
theorem agL.cln {g:Cx} {w:World}:∀ {cs:List SV} {vs:List Value},cs.all Am.cln=true→agL g w cs vs→agL g.pure w cs vs
 | [],[],_,_=>trivial
 | c :: cs,v :: vs,hc,h=>by
   rw [List.all_cons,Bool.and_eq_true] at hc;exact ⟨h.1.cln hc.1,agL.cln hc.2 h.2⟩
 | [],_ :: _,_,h=>h.elim
 | _ :: _,[],_,h=>h.elim
section
variable {P:Program} {X:Ev} {e:En}
theorem Rel.frz {σ:AS} {a:Act} {w:World} (hr:Rel X e σ a w) (d:Nat) {s v n k:Nat} {r:Row} (h1:look σ.fr d=.own s v n k) (h2:lookR σ.hp s=some r) (h3:r.ver=v∧s < 1000∧r.cs.length=n * k∧r.cs.all cln=true∧n≤9223372036854775807):Rel X e ⟨(d,.sl n k r.cs) :: σ.fr,dropR s σ.hp,σ.nx,σ.fz,σ.N⟩ a w:=by
 obtain ⟨hd,hs,g,hf,hI⟩:=hr;obtain ⟨rfl,hs1,hlen,hcl,hn9⟩:=h3;have hslot:=hf d;rw [h1] at hslot;obtain ⟨hA,⟨hn,hk9⟩,hv⟩:=hslot;have hrow:=hI.row s r h2
 let g':Cx:=⟨fun b=>g.Z b∨(g.ka r.ver≠0∧b=g.mu r.ver),g.A,g.mu,g.ka⟩
 have hle:g.le g':=⟨fun _ h=>.inl h,fun u hu=>⟨hu,rfl,rfl⟩⟩;have key:∀ u q,lookR (dropR s σ.hp) u=some q→u≠s∧lookR σ.hp u=some q:=fun u q hu=>lookR_dropR _ _ _ _ hu
 refine ⟨hd,hs,g',fun d'=>?_,⟨hI.le.trans hle,fun u q hu=>(hI.row u q (key u q hu).2).mono hle (fun _ _=>rfl) fun _=>rfl,fun u u' q q' hu hu'=>hI.apart u u' q q' (key u q hu).2 (key u' q' hu').2,fun u q hu hz hk hZ=>?_,fun u q hu=>hI.mine u q (key u q hu).2,hI.ver,hI.blk,fun b hb=>?_,fun b hb=>?_,hI.keep,hI.size,hI.io,hI.env,hI.nd⟩⟩
 ·show holds g' w (look ((d,.sl n k r.cs) :: σ.fr) d') _
  rw [show look ((d,.sl n k r.cs) :: σ.fr) d'=if d=d' then .sl n k r.cs else look σ.fr d' from rfl];by_cases hdd:d=d'
  ·subst hdd;rw [if_pos rfl]
   by_cases h0:r.cs.length=0
   ·rcases hv with hv | ⟨hk0,hv⟩
    ·exact ⟨_,_,hv,⟨hn,hk9⟩,hlen,.inl h0⟩
    ·exact ⟨none,0,by rw [hv,show n=0 by omega],by omega,hlen,.inl h0⟩
   ·obtain ⟨hka,arr,a1,a2,a3,a4⟩:=hrow.arr (by omega)
    have hv:=hv.resolve_right fun h=>hka h.1
    refine ⟨_,_,hv,⟨hn,hk9⟩,hlen,.inr ⟨_,0,rfl,.inr ⟨hka,rfl⟩,?_⟩⟩;have a5:=(a4.cln hcl).mono (g':=g'.pure) hle.pure fun _ _=>rfl
    refine atL.of a5 fun i x hx=>?_
    rw [List.getElem?_take] at hx
    split at hx
    ·simp only [World.cell?,a1,Nat.zero_add]
     simpa using hx
    ·cases hx
  ·rw [if_neg hdd];exact holds.mono hle (fun _ _=>rfl) _ _ (hf d')
 ·obtain ⟨b1,b2⟩:=key u q hu
  rcases hZ with hZ | ⟨hk',hZ⟩
  ·exact hI.free u q b2 hz hk hZ
  ·exact hI.apart u s q r b2 h2 b1 hk hk' hZ
 ·rcases hb with hb | ⟨hk,rfl⟩
  ·exact hI.zlt b hb
  ·exact hI.blk _ hA hk
 ·rcases hb with hb | ⟨hk,rfl⟩
  ·exact hI.znew b hb
  ·rcases hI.mine s r h2 hk with h | ⟨h,_⟩
   ·exact .inr h
   ·omega
theorem frz (d:Nat) {s v n k:Nat} {r:Row} {c:Code} {Q:Exit→AS→Prop} {σ:AS} (h1:look σ.fr d=.own s v n k) (h2:lookR σ.hp s=some r) (h3:r.ver=v∧s < 1000∧r.cs.length=n * k∧r.cs.all cln=true∧n≤9223372036854775807) (h:AW P X e c Q ⟨(d,.sl n k r.cs) :: σ.fr,dropR s σ.hp,σ.nx,σ.fz,σ.N⟩):AW P X e c Q σ:=fun a w hr=>h a w (hr.frz d h1 h2 h3)
end
end Am
section
variable (l:List It)
end
mutual
def Gt.vd (b:List UInt8):Gt→Prop
 | .mk mj lw a en n sub=>((mj < 2∨mj=7)→sub=[])∧(mj=5→sub.length % 2=0)∧(lw=31→2≤mj∧mj≤5)∧(∀ x,Gt.cn b (.mk mj lw a en n sub)=some x→x.valid=true)∧((mj=2∨mj=3)→lw=31→(Gt.strs b sub).length≤4096)∧(4≤mj→Gt.vds b sub)
def Gt.vds (b:List UInt8):List Gt→Prop
 | []=>True
 | t :: l=>Gt.vd b t∧Gt.vds b l
end
mutual
theorem gi_vd {b:List UInt8} (hL:b.length≤4096):∀ {g lv p it ck:Nat} {t:Gt} {q i:Nat},gi b g lv p it ck=.ok (t,q,i)→it≤256→p≤b.length→lv≤8→t.bad b=false→t.vd b
 | 0,_,_,_,_,_,_,_,h,_,_,_,_=>by rw [gi] at h;cases h
 | g + 1,lv,p,it,ck,t,q,i,h,hi,hp,hlv,hbd=>by
   have hbd0:=gi_bd h hi hp;have hval:∀ x,t.cn b=some x→x.valid=true:=fun x hx=>by
    obtain ⟨a1,a2,a3⟩:=gi_cn hL h hi hp hlv hbd hx;unfold It.valid;rw [It.wf_up (show 8 - lv≤8 by omega) a1,decide_eq_true (show x.nodes≤256 by omega),decide_eq_true (show x.enc.length≤4096 by omega)]
    rfl
   rw [gi] at h;cases hh:hdP b p it ck with
   | error e=>rw [hh] at h;cases h
   | ok x=>
     obtain ⟨mj,lw,n,z,r⟩:=x;obtain ⟨h1,h2,h3,h4,h5,h6,h7,h8,h9,h310,_⟩:=hdP_ok hh;have h7:=h7 (by omega);rw [hh] at h;simp only at h
     split at h
     ·rename_i hm
      split at h
      ·rename_i hl
       split at h
       ·cases h
       ·rename_i l u j hg
        injection h with h;simp only [Prod.mk.injEq] at h
        obtain ⟨rfl,rfl,rfl⟩:=h;have h11:=gl_str hm hg (by omega) h7;exact ⟨fun h=>by omega,fun h=>by omega,fun _=>by omega,hval,fun _ _=>by omega,fun h=>by omega⟩
      ·rename_i hl
       split at h
       ·injection h with h;simp only [Prod.mk.injEq] at h
        obtain ⟨rfl,rfl,rfl⟩:=h;exact ⟨fun h=>rfl,fun _=>rfl,fun h=>absurd h hl,hval,fun _ h=>absurd h hl,fun _=>trivial⟩
       ·cases h
     ·rename_i hm
      split at h
      ·rename_i hm2
       injection h with h;simp only [Prod.mk.injEq] at h
       obtain ⟨rfl,rfl,rfl⟩:=h;exact ⟨fun _=>rfl,fun _=>rfl,fun h=>by have:=h310 h;omega,hval,fun h=>absurd h hm,fun _=>trivial⟩
      ·split at h
       ·cases h
       ·cases hg:gl b g (lv + 1) r (it + 1) (if lw=31 then none else some (cntP mj n)) 8 with
        | error e=>rw [hg] at h;cases h
        | ok y=>
          obtain ⟨l,u,j⟩:=y;rw [hg] at h;simp only at h
          split at h
          ·cases h
          ·rename_i hev
           injection h with h;simp only [Prod.mk.injEq] at h
           obtain ⟨rfl,rfl,rfl⟩:=h;have hbl:Gt.bads b l=false:=by
            rw [Gt.bad,Bool.or_eq_false_iff] at hbd;exact hbd.2
           refine ⟨fun h=>by omega,fun h5'=>?_,h310,hval,fun h=>absurd h hm,fun _=>gl_vd hL hg (by omega) h7 (by omega) hbl⟩;by_cases hl:lw=31
           ·have:¬ l.length % 2=1:=fun h=>hev ⟨hl,h5',h⟩
            omega
           ·rw [if_neg hl] at hg
            have h11:=gl_cnt hg;rw [h5'] at h11
            replace h11:l.length=2 * n:=h11
            omega
theorem gl_vd {b:List UInt8} (hL:b.length≤4096):∀ {g lv p it:Nat} {c:Option Nat} {ck:Nat} {l:List Gt} {q i:Nat},gl b g lv p it c ck=.ok (l,q,i)→it≤256→p≤b.length→lv≤8→Gt.bads b l=false→Gt.vds b l
 | 0,_,_,_,_,_,_,_,_,h,_,_,_,_=>by rw [gl] at h;cases h
 | g + 1,lv,p,it,c,ck,l,q,i,h,hi,hp,hlv,hbd=>by
   rw [gl] at h
   split at h
   ·injection h with h;simp only [Prod.mk.injEq] at h;obtain ⟨rfl,rfl,rfl⟩:=h;trivial
   ·split at h
    ·injection h with h;simp only [Prod.mk.injEq] at h;obtain ⟨rfl,rfl,rfl⟩:=h;trivial
    ·cases hg:gi b g lv p it ck with
     | error e=>rw [hg] at h;cases h
     | ok x=>
       obtain ⟨t,r,j⟩:=x;have h1:=gi_bd hg hi hp;rw [hg] at h;simp only at h;cases hl:gl b g lv r j (c.map (· - 1)) ck with
       | error e=>rw [hl] at h;cases h
       | ok y=>
         obtain ⟨m,u,k⟩:=y;rw [hl] at h;injection h with h;simp only [Prod.mk.injEq] at h;obtain ⟨rfl,rfl,rfl⟩:=h
         rw [Gt.bads,Bool.or_eq_false_iff] at hbd;exact ⟨gi_vd hL hg hi hp hlv hbd.1,gl_vd hL hl (by omega) (by omega) hlv hbd.2⟩
end
end Go.Proofs.YtelefkkkccilaaaDoor
namespace Go.Proofs.YtelefkkkccilaaaDoor
open Am Go.RowKit
set_option maxRecDepth 100000
theorem It.Ins.add {l:List It.KV} {p:It.KV} (h:It.Ins l false) (hp:¬ It.key p ∈ l.map It.key):It.Ins (It.insK l p) false:=h.next false ⟨fun h=>(by cases h),fun h=>absurd h hp⟩
theorem It.Ins.nd {l:List It.KV} (h:It.Ins l false):(l.map It.key).Nodup:=Classical.byContradiction fun h2=>by have:=h.twice.2 h2;cases this
def BdN (I:It→SV→Prop):Option It→SV→List Row→Prop
 | none,r,rows=>r=.tup [.agg [iv 0,uv 0,.v (.slice none 0 0),.v (.slice none 0 0)],bov false]∧rows=[]
 | some x,r,rows=>∃ a,I x a∧r=.tup [a,bov true]∧rows=[]
theorem BdN.err {I:It→SV→Prop} {R:Option It} (h:R=none):BdN I R (.tup [.agg [iv 0,uv 0,.v (.slice none 0 0),.v (.slice none 0 0)],bov false]) []:=by rw [h];exact ⟨rfl,rfl⟩
theorem BdN.ok {I:It→SV→Prop} {R:Option It} {x:It} {a:SV} (h:R=some x) (ha:I x a):BdN I R (.tup [a,bov true]) []:=by rw [h];exact ⟨a,ha,rfl,rfl⟩
structure BdA where
 u:Nat
 k:Int
 N:Nat
 o:Option (Nat × List UInt8)
def bdJ (b:List UInt8) (nx:Nat) (T:List SV):BdA→AS
 | ⟨u,k,N,none⟩=>⟨[(0,bsl b),(3,.ptr 3 nx 0),(4,.ptr 4 (nx + 1) 0),(6,.ptr 6 (nx + 1 + 1) 0)],[(3,⟨nx,57,7,T⟩),(4,⟨nx + 1,31,4,[iv 0,uv 0,.v (.slice none 0 0),.v (.slice none 0 0)]⟩),(6,⟨nx + 1 + 1,31,4,[iv k,uv N,.v (.slice none 0 0),.v (.slice none 0 0)]⟩)],u,[],190⟩
 | ⟨u,k,N,some (ver,L)⟩=>⟨[(0,bsl b),(3,.ptr 3 nx 0),(4,.ptr 4 (nx + 1) 0),(6,.ptr 6 (nx + 1 + 1) 0)],[(3,⟨nx,57,7,T⟩),(4,⟨nx + 1,31,4,[iv 0,uv 0,.v (.slice none 0 0),.v (.slice none 0 0)]⟩),(6,⟨nx + 1 + 1,31,4,[iv k,uv N,.own 71 ver L.length 1,.v (.slice none 0 0)]⟩),(71,⟨ver,5,1,bys L⟩)],u,[],190⟩
@[go_sem] theorem bdJ_n (b:List UInt8) (nx:Nat) (T:List SV) (u:Nat) (k:Int) (N:Nat):bdJ b nx T ⟨u,k,N,none⟩=⟨[(0,bsl b),(3,.ptr 3 nx 0),(4,.ptr 4 (nx + 1) 0),(6,.ptr 6 (nx + 1 + 1) 0)],[(3,⟨nx,57,7,T⟩),(4,⟨nx + 1,31,4,[iv 0,uv 0,.v (.slice none 0 0),.v (.slice none 0 0)]⟩),(6,⟨nx + 1 + 1,31,4,[iv k,uv N,.v (.slice none 0 0),.v (.slice none 0 0)]⟩)],u,[],190⟩:=rfl
@[go_sem] theorem bdJ_s (b:List UInt8) (nx:Nat) (T:List SV) (u:Nat) (k:Int) (N ver:Nat) (L:List UInt8):bdJ b nx T ⟨u,k,N,some (ver,L)⟩=⟨[(0,bsl b),(3,.ptr 3 nx 0),(4,.ptr 4 (nx + 1) 0),(6,.ptr 6 (nx + 1 + 1) 0)],[(3,⟨nx,57,7,T⟩),(4,⟨nx + 1,31,4,[iv 0,uv 0,.v (.slice none 0 0),.v (.slice none 0 0)]⟩),(6,⟨nx + 1 + 1,31,4,[iv k,uv N,.own 71 ver L.length 1,.v (.slice none 0 0)]⟩),(71,⟨ver,5,1,bys L⟩)],u,[],190⟩:=rfl
structure StA where
 u:Nat
 i:Nat
 o:Option (Nat × List UInt8)
def StA.L (y:StA):List UInt8:=match y.o with | none=>[] | some z=>z.2
def stJ (b:List UInt8) (nx:Nat) (T:List SV) (mj:Nat) (m:Nat) (S:SV):StA→AS
 | ⟨u,i,none⟩=>⟨[(0,bsl b),(3,.ptr 3 nx 0),(4,.ptr 4 (nx + 1) 0),(6,.ptr 6 (nx + 1 + 1) 0),(34,S),(35,iv m),(36,iv i)],[(3,⟨nx,57,7,T⟩),(4,⟨nx + 1,31,4,[iv 0,uv 0,.v (.slice none 0 0),.v (.slice none 0 0)]⟩),(6,⟨nx + 1 + 1,31,4,[iv mj,uv 0,.v (.slice none 0 0),.v (.slice none 0 0)]⟩)],u,[],190⟩
 | ⟨u,i,some (ver,L)⟩=>⟨[(0,bsl b),(3,.ptr 3 nx 0),(4,.ptr 4 (nx + 1) 0),(6,.ptr 6 (nx + 1 + 1) 0),(34,S),(35,iv m),(36,iv i)],[(3,⟨nx,57,7,T⟩),(4,⟨nx + 1,31,4,[iv 0,uv 0,.v (.slice none 0 0),.v (.slice none 0 0)]⟩),(6,⟨nx + 1 + 1,31,4,[iv mj,uv 0,.own 42 ver L.length 1,.v (.slice none 0 0)]⟩),(42,⟨ver,5,1,bys L⟩)],u,[],190⟩
@[go_sem] theorem stJ_n (b:List UInt8) (nx:Nat) (T:List SV) (mj m:Nat) (S:SV) (u i:Nat):stJ b nx T mj m S ⟨u,i,none⟩=⟨[(0,bsl b),(3,.ptr 3 nx 0),(4,.ptr 4 (nx + 1) 0),(6,.ptr 6 (nx + 1 + 1) 0),(34,S),(35,iv m),(36,iv i)],[(3,⟨nx,57,7,T⟩),(4,⟨nx + 1,31,4,[iv 0,uv 0,.v (.slice none 0 0),.v (.slice none 0 0)]⟩),(6,⟨nx + 1 + 1,31,4,[iv mj,uv 0,.v (.slice none 0 0),.v (.slice none 0 0)]⟩)],u,[],190⟩:=rfl
@[go_sem] theorem stJ_s (b:List UInt8) (nx:Nat) (T:List SV) (mj m:Nat) (S:SV) (u i ver:Nat) (L:List UInt8):stJ b nx T mj m S ⟨u,i,some (ver,L)⟩=⟨[(0,bsl b),(3,.ptr 3 nx 0),(4,.ptr 4 (nx + 1) 0),(6,.ptr 6 (nx + 1 + 1) 0),(34,S),(35,iv m),(36,iv i)],[(3,⟨nx,57,7,T⟩),(4,⟨nx + 1,31,4,[iv 0,uv 0,.v (.slice none 0 0),.v (.slice none 0 0)]⟩),(6,⟨nx + 1 + 1,31,4,[iv mj,uv 0,.own 42 ver L.length 1,.v (.slice none 0 0)]⟩),(42,⟨ver,5,1,bys L⟩)],u,[],190⟩:=rfl
def cnP (b:List UInt8):Except Nat It:=if 4096 < b.length then .error 8 else match readP b with
 | .error e=>.error e
 | .ok (t,p,_)=>if p < b.length then .error 9 else if t.bad b=true then .error 5 else match t.cn b with
   | none=>.error 7
   | some x=>.ok x
def IcN (I:It→SV→Prop):Except Nat It→SV→List Row→Prop
 | .error e,r,rows=>r=.tup [.agg [iv 0,uv 0,.v (.slice none 0 0),.v (.slice none 0 0)],iv e]∧rows=[]
 | .ok x,r,rows=>∃ a,I x a∧r=.tup [a,iv 0]∧rows=[]
theorem IcN.err {I:It→SV→Prop} {R:Except Nat It} {e:Nat} (h:R=.error e):IcN I R (.tup [.agg [iv 0,uv 0,.v (.slice none 0 0),.v (.slice none 0 0)],iv e]) []:=by rw [h];exact ⟨rfl,rfl⟩
theorem IcN.ok {I:It→SV→Prop} {R:Except Nat It} {x:It} {a:SV} (h:R=.ok x) (ha:I x a):IcN I R (.tup [a,iv 0]) []:=by rw [h];exact ⟨a,ha,rfl,rfl⟩
theorem cnP_ok {b:List UInt8} {x:It} (h:cnP b=.ok x):x.valid=true:=by
 unfold cnP at h
 split at h
 ·cases h
 ·rename_i hl
  split at h
  ·cases h
  ·rename_i t p it hr
   split at h
   ·cases h
   ·split at h
    ·cases h
    ·rename_i hb
     split at h
     ·cases h
     ·rename_i y hy
      cases h
      unfold readP at hr;rw [List.take_of_length_le (by omega)] at hr;have hv:=gi_vd (by omega) hr (by omega) (by omega) (by omega) (by simpa using hb)
      revert hv hy
      cases t
      exact fun hy hv=>hv.2.2.2.1 _ hy
theorem cnP_err {b:List UInt8} {e:Nat} (h:cnP b=.error e):e≠0:=by
 unfold cnP at h
 split at h
 ·cases h;decide
 ·split at h
  ·rename_i e' hr
   cases h
   exact gi_err hr
  ·split at h
   ·cases h;decide
   ·split at h
    ·cases h;decide
    ·split at h
     ·cases h;decide
     ·cases h
def CaC (R:Except Nat It) (r:SV) (rows:List Row):Prop:=match R with
 | .error e=>r=.tup [.v (.slice none 0 0),iv e]∧rows=[]
 | .ok x=>r=.tup [bsl x.enc,iv 0]∧rows=[]
section
variable {Z Z':Nat→Prop} {w w':World}
theorem TWi.len:∀ {x:It} {vs:List Value} {S:List Nat},TWi Z w x vs S→vs.length=4
 | .mk k n b ks,vs,S,h=>by
   unfold TWi at h;obtain ⟨ba,bc,ia,ic,rfl,_⟩:=h
   rfl
theorem TWl.len:∀ {l:List It} {vs:List Value} {S:List Nat},TWl Z w l vs S→vs.length=4 * l.length
 | [],vs,S,h=>by unfold TWl at h;rw [h.1];rfl
 | x :: xs,vs,S,h=>by
   unfold TWl at h;obtain ⟨v1,vs2,S1,S2,rfl,rfl,h1,h2⟩:=h;rw [List.length_append,h1.len,TWl.len h2,List.length_cons];omega
theorem TWl.app:∀ {l m:List It} {vs:List Value} {S:List Nat},TWl Z w (l ++ m) vs S↔∃ v1 v2 S1 S2,vs=v1 ++ v2∧S=S1 ++ S2∧TWl Z w l v1 S1∧TWl Z w m v2 S2
 | [],m,vs,S=>by
   constructor
   ·intro h
    exact ⟨[],vs,[],S,rfl,rfl,by unfold TWl;exact ⟨rfl,rfl⟩,h⟩
   ·rintro ⟨v1,v2,S1,S2,rfl,rfl,h1,h2⟩
    unfold TWl at h1;obtain ⟨rfl,rfl⟩:=h1;exact h2
 | x :: l,m,vs,S=>by
   rw [List.cons_append];constructor
   ·intro h
    unfold TWl at h;obtain ⟨v1,vs2,S1,S2,rfl,rfl,h1,h2⟩:=h;obtain ⟨v3,v4,S3,S4,rfl,rfl,h3,h4⟩:=TWl.app.1 h2;refine ⟨v1 ++ v3,v4,S1 ++ S3,S4,(List.append_assoc ..).symm,(List.append_assoc ..).symm,?_,h4⟩;unfold TWl;exact ⟨v1,v3,S1,S3,rfl,rfl,h1,h3⟩
   ·rintro ⟨v1,v2,S1,S2,rfl,rfl,h1,h2⟩
    unfold TWl at h1;obtain ⟨v3,v4,S3,S4,rfl,rfl,h3,h4⟩:=h1;unfold TWl;exact ⟨v3,v4 ++ v2,S3,S4 ++ S2,List.append_assoc ..,List.append_assoc ..,h3,TWl.app.2 ⟨v4,v2,S4,S2,rfl,rfl,h4,h2⟩⟩
theorem TWl.one {x:It} {vs:List Value} {S:List Nat}:TWl Z w [x] vs S↔TWi Z w x vs S:=by
 constructor
 ·intro h
  unfold TWl at h;obtain ⟨v1,v2,S1,S2,rfl,rfl,h1,h2⟩:=h;unfold TWl at h2;obtain ⟨rfl,rfl⟩:=h2;rw [List.append_nil,List.append_nil];exact h1
 ·intro h
  unfold TWl;exact ⟨vs,[],S,[],(List.append_nil _).symm,(List.append_nil _).symm,h,by unfold TWl;exact ⟨rfl,rfl⟩⟩
def U8 (w w':World):Prop:=∀ b o v,w.cell? ⟨b,o,none⟩=some (.int .u8 v)→w'.cell? ⟨b,o,none⟩=some (.int .u8 v)
theorem U8.refl (w:World):U8 w w:=fun _ _ _ h=>h
theorem U8.trans {u:World} (h:U8 w w') (k:U8 w' u):U8 w u:=fun b o v e=>k b o v (h b o v e)
theorem TWb.keep {b:List UInt8} {a:Option Addr} (hu:U8 w w') (h:TWb Z w b a):TWb Z w' b a:=
 h.imp id fun ⟨d,o,e,hd,hc⟩=>⟨d,o,e,hd,fun i hi=>hu _ _ _ (hc i hi)⟩
mutual
theorem TWi.keep (hu:U8 w w'):∀ (x:It) {Z:Nat→Prop} {vs:List Value} {S:List Nat},(∀ b ∈ S,w'.heap[b]?=w.heap[b]?)→TWi Z w x vs S→TWi Z w' x vs S
 | .mk k n b ks,Z,vs,S,hS,h=>by
   unfold TWi at h ⊢;obtain ⟨ba,bc,ia,ic,e,h1,h2,h3,h4⟩:=h;refine ⟨ba,bc,ia,ic,e,h1,h2.keep hu,h3,h4.imp id fun ⟨d,arr,S2,e1,hd,e2,e3,e4,e5⟩=>?_⟩;subst e5;exact ⟨d,arr,S2,e1,hd,(hS d (by simp)).trans e2,e3,TWl.keep hu ks (fun b hb=>hS b (by simp [hb])) e4,rfl⟩
theorem TWl.keep (hu:U8 w w'):∀ (l:List It) {Z:Nat→Prop} {vs:List Value} {S:List Nat},(∀ b ∈ S,w'.heap[b]?=w.heap[b]?)→TWl Z w l vs S→TWl Z w' l vs S
 | [],Z,vs,S,hS,h=>by unfold TWl at h ⊢;exact h
 | x :: xs,Z,vs,S,hS,h=>by
   unfold TWl at h ⊢;obtain ⟨v1,vs2,S1,S2,e1,e2,h1,h2⟩:=h;subst e2;exact ⟨v1,vs2,S1,S2,e1,rfl,TWi.keep hu x (fun b hb=>hS b (by simp [hb])) h1,TWl.keep hu xs (fun b hb=>hS b (by simp [hb])) h2⟩
end
theorem TWb.br {b:List UInt8} {a:Option Addr} (h:TWb Z w b a) (hl:b.length≤9223372036854775807):BR Z w a b.length b:=by
 refine ⟨rfl,hl,fun i hi=>?_⟩;rcases h with rfl | ⟨d,o,rfl,hd,hc⟩
 ·simp at hi
 ·exact ⟨d,o,rfl,hd,hc i hi⟩
mutual
theorem ir_tw:∀ (x:It) {vs:List Value} {S:List Nat},TWi Z w x vs S→x.fits→∃ A:Ad,vs=[.int .i64 x.kind,.int .u64 (x.num:Int),.slice A.ab A.nb A.cb,.slice A.ai A.ni A.ci]∧IR Z w x A
 | .mk k n b ks,vs,S,h,hf=>by
   unfold TWi at h;obtain ⟨ba,bc,ia,ic,rfl,h1,h2,h3,h4⟩:=h;refine ⟨⟨ba,b.length,bc,ia,ks.length,ic⟩,rfl,?_⟩;unfold IR;refine ⟨hf.1,⟨h2.br (by omega),h1⟩,⟨rfl,h3⟩,?_⟩;rcases h4 with ⟨rfl,_⟩ | ⟨d,arr,S2,rfl,hd,e2,e3,e4,_⟩
   ·unfold KR;trivial
   ·refine kr_tw ks (TWl.mono (fun _ h=>h.1) (fun _ _=>rfl) _ _ _ e4) hf.2 hd 0 fun j v hj=>?_
    rw [List.getElem?_take] at hj
    split at hj
    ·simp only [World.cell?,e2]
     simpa using hj
    ·cases hj
theorem kr_tw:∀ (l:List It) {vs:List Value} {S:List Nat} {d:Nat},TWl Z w l vs S→It.fitsL l→Z d→∀ (i:Nat),(∀ j v,vs[j]?=some v→w.cell? ⟨d,i * 4 + j,none⟩=some v)→KR Z w l (some ⟨d,0,none⟩) i
 | [],vs,S,d,h,hf,hd,i,hc=>by unfold KR;trivial
 | x :: xs,vs,S,d,h,hf,hd,i,hc=>by
   unfold TWl at h;obtain ⟨v1,v2,S1,S2,rfl,rfl,h1,h2⟩:=h;obtain ⟨A,rfl,hI⟩:=ir_tw x h1 hf.1;unfold KR;refine ⟨⟨d,0,A,rfl,hd,⟨?_,?_,?_,?_⟩,hI⟩,kr_tw xs h2 hf.2 hd (i + 1) fun j v hj=>?_⟩
   ·have:=hc 0 _ rfl;rw [show 0 + i * 4=i * 4 + 0 by omega];exact this
   ·have:=hc 1 _ rfl;rw [show 0 + i * 4 + 1=i * 4 + 1 by omega];exact this
   ·have:=hc 2 _ rfl;rw [show 0 + i * 4 + 2=i * 4 + 2 by omega];exact this
   ·have:=hc 3 _ rfl;rw [show 0 + i * 4 + 3=i * 4 + 3 by omega];exact this
   ·have:=hc (4 + j) v (by rw [show 4 + j=j + 4 by omega];exact hj)
    rw [show (i + 1) * 4 + j=i * 4 + (4 + j) by omega];exact this
end
theorem hi_tw {x:It} {vs:List Value} {S:List Nat} {g:Cx} (h:TWi Z w x vs S) (hf:x.fits) (hg:∀ b,Z b→b < w.heap.size→g.Z b):holds g w (itS x) (.agg vs.toArray):=by
 obtain ⟨A,rfl,hI⟩:=ir_tw x h hf;exact hi_of hg hI
end
structure FrS (S:List Nat) (w w':World):Prop where
 size:w.heap.size≤w'.heap.size
 keep:∀ b,b < w.heap.size→b ∉ S→w'.heap[b]?=w.heap[b]?
 u8:U8 w w'
 io:w'.os=w.os∧w'.tape=w.tape∧w'.output=w.output
theorem FrS.refl (S:List Nat) (w:World):FrS S w w:=⟨Nat.le_refl _,fun _ _ _=>rfl,.refl w,rfl,rfl,rfl⟩
theorem FrS.trans {S1 S2 S:List Nat} {u v w:World} (h:FrS S1 u v) (k:FrS S2 v w) (h1:∀ b ∈ S1,b ∈ S) (h2:∀ b ∈ S2,b ∈ S):FrS S u w:=
 ⟨Nat.le_trans h.size k.size,fun b hb hS=>(k.keep b (Nat.lt_of_lt_of_le hb h.size) fun hm=>hS (h2 b hm)).trans (h.keep b hb fun hm=>hS (h1 b hm)),h.u8.trans k.u8,k.io.1.trans h.io.1,k.io.2.1.trans h.io.2.1,k.io.2.2.trans h.io.2.2⟩
theorem FrS.env {S:List Nat} {u v:World} (h:FrS S u v) (hS:∀ b ∈ S,2≤b) (hE:Env u):Env v:=XU.st u v h.size hE fun b hb=>h.keep b (XU.lt u b hE hb) fun hm=>by
 have:=hS b hm;rcases hb with rfl | rfl <;> omega
theorem FrS.of {w w':World} (hs:w.heap.size≤w'.heap.size) (hk:∀ b,b < w.heap.size→w'.heap[b]?=w.heap[b]?) (hio:w'.os=w.os∧w'.tape=w.tape∧w'.output=w.output) (S:List Nat):FrS S w w':=
 ⟨hs,fun b hb _=>hk b hb,fun b o v h=>(cell_eq (hk b (cell_lt h)) o).trans h,hio⟩
theorem FrS.mono {S S':List Nat} {w w':World} (h:FrS S w w') (hS:∀ b ∈ S,b ∈ S'):FrS S' w w':=⟨h.size,fun b hb hm=>h.keep b hb fun hx=>hm (hS b hx),h.u8,h.io⟩
theorem cont_and (b:Nat) (h1:128≤b) (h2:b≤191):b &&& 192=128:=by
 have h:∀ k:Fin 64,(128 + k.val) &&& 192=128:=by decide
 have:=h ⟨b - 128,by omega⟩;rwa [show 128 + (b - 128)=b by omega] at this
theorem acc_rng:∀ b0:Fin 256,(Lib.firstT b0.val % 8=2∨Lib.firstT b0.val % 8=3∨Lib.firstT b0.val % 8=4)→128≤Lib.accLo (Lib.firstT b0.val / 16)∧Lib.accHi (Lib.firstT b0.val / 16)≤191:=by decide +kernel
theorem validD_pre:∀ (n:Nat) (l:List UInt8) (i:Nat),l.length≤n→Lib.validD l=true→(0 < i→(hi:i < l.length)→¬ (l[i].toNat &&& 192=128))→Lib.validD (l.take i)=true
 | 0,l,i,hl,hv,hc=>by
   have:l=[]:=List.length_eq_zero_iff.1 (by omega);subst this;simpa using hv
 | n + 1,[],i,_,hv,_=>by simpa using hv
 | n + 1,c :: l,0,_,_,_=>rfl
 | n + 1,c :: l,i + 1,hl,hv,hc=>by
   by_cases h0:c.toNat < 128
   ·rw [Lib.validD_cons c l h0] at hv
    rw [List.take_succ_cons,Lib.validD_cons c _ h0];exact validD_pre n l i (by simpa using hl) hv fun h1 h2=>by
     have:=hc (by omega) (by simpa using h2);simpa using this
   ·rcases Nat.lt_or_ge i l.length with hil | hil
    ·have hilt:i + 1 < (c :: l).length:=by simpa using hil
     have hci:¬ ((c :: l)[i + 1].toNat &&& 192=128):=hc (by omega) hilt;have h1:128≤((c :: l).getD 0 0).toNat:=by simpa using h0
     rw [Lib.validD_lead _ (by simp) h1] at hv;have h2:128≤(((c :: l).take (i + 1)).getD 0 0).toNat:=by simpa using h0
     rw [Lib.validD_lead _ (by simp) h2];have e0:((c :: l).take (i + 1)).getD 0 0=(c :: l).getD 0 0:=rfl;rw [e0];have hR:(Lib.firstT ((c :: l).getD 0 0).toNat % 8=2∨Lib.firstT ((c :: l).getD 0 0).toNat % 8=3∨Lib.firstT ((c :: l).getD 0 0).toNat % 8=4)→128≤Lib.accLo (Lib.firstT ((c :: l).getD 0 0).toNat / 16)∧Lib.accHi (Lib.firstT ((c :: l).getD 0 0).toNat / 16)≤191:=acc_rng ⟨((c :: l).getD 0 0).toNat,UInt8.toNat_lt _⟩;generalize Lib.accLo (Lib.firstT ((c :: l).getD 0 0).toNat / 16)=lo at *;generalize Lib.accHi (Lib.firstT ((c :: l).getD 0 0).toNat / 16)=hi at *;generalize Lib.firstT ((c :: l).getD 0 0).toNat % 8=sz at *;have ge:∀ j,j < i + 1→((c :: l).take (i + 1)).getD j 0=(c :: l).getD j 0:=fun j hj=>by
      rw [List.getD_eq_getElem?_getD,List.getD_eq_getElem?_getD,List.getElem?_take_of_lt hj]
     have hq:((c :: l).take (i + 1)).length=i + 1:=by simp;omega
     have hcc:∀ j,j=i + 1→128≤((c :: l).getD j 0).toNat→((c :: l).getD j 0).toNat≤191→False:=fun j hj g1 g2=>by
      subst hj;have e:(c :: l).getD (i + 1) 0=(c :: l)[i + 1]:=by
       rw [List.getD_eq_getElem?_getD,List.getElem?_eq_getElem hilt];rfl
      rw [e] at g1 g2;exact hci (cont_and _ g1 g2)
     rw [hq];obtain ⟨q,hQ⟩:∃ q,(c :: l).length=q:=⟨_,rfl⟩;rw [hQ] at hv;have hL:i + 1 < q:=hQ ▸ hilt;have key:∀ k,Lib.checkN q ((c :: l).getD 1 0).toNat ((c :: l).getD 2 0).toNat ((c :: l).getD 3 0).toNat sz lo hi=some k→1 < k∧k≤i + 1∧Lib.checkN (i + 1) (((c :: l).take (i + 1)).getD 1 0).toNat (((c :: l).take (i + 1)).getD 2 0).toNat (((c :: l).take (i + 1)).getD 3 0).toNat sz lo hi=some k:=by
      intro k hk;unfold Lib.checkN at hk ⊢
      split at hk
      ·rename_i hs
       split at hk
       ·cases hk
       ·rename_i hc2
        cases hk
        have:=hR (by omega);have:1 < i + 1:=Classical.byContradiction fun h=>hcc 1 (by omega) (by omega) (by omega)
        rw [if_pos hs,ge 1 (by omega),if_neg (by omega)];exact ⟨by omega,by omega,rfl⟩
      ·rename_i hs2
       rw [if_neg hs2]
       split at hk
       ·rename_i hs
        split at hk
        ·cases hk
        ·rename_i hc2
         cases hk
         have:=hR (by omega);have:1 < i + 1:=Classical.byContradiction fun h=>hcc 1 (by omega) (by omega) (by omega)
         have:2 < i + 1:=Classical.byContradiction fun h=>hcc 2 (by omega) (by omega) (by omega)
         rw [if_pos hs,ge 1 (by omega),ge 2 (by omega),if_neg (by omega)];exact ⟨by omega,by omega,rfl⟩
       ·rename_i hs3
        rw [if_neg hs3]
        split at hk
        ·rename_i hs
         split at hk
         ·cases hk
         ·rename_i hc2
          cases hk
          have:=hR (by omega);have:1 < i + 1:=Classical.byContradiction fun h=>hcc 1 (by omega) (by omega) (by omega)
          have:2 < i + 1:=Classical.byContradiction fun h=>hcc 2 (by omega) (by omega) (by omega)
          have:3 < i + 1:=Classical.byContradiction fun h=>hcc 3 (by omega) (by omega) (by omega)
          rw [if_pos hs,ge 1 (by omega),ge 2 (by omega),ge 3 (by omega),if_neg (by omega)];exact ⟨by omega,by omega,rfl⟩
        ·cases hk
     split at hv
     ·cases hv
     ·rename_i k hk
      obtain ⟨hk1,hk2,hk3⟩:=key k hk;rw [hk3];simp only;have hd:((c :: l).take (i + 1)).drop k=((c :: l).drop k).take (i + 1 - k):=by rw [List.drop_take]
      rw [hd];refine validD_pre n _ _ (by rw [List.length_drop];omega) hv fun g1 g2=>?_
      rw [List.getElem_drop];have:k + (i + 1 - k)=i + 1:=by omega
      simp only [this];exact hci
    ·rw [List.take_of_length_le (by simp;omega)];exact hv
theorem pre_get (pre m:List UInt8) (c:UInt8):(pre ++ c :: m).getD pre.length 0=c:=by
 rw [List.getD_eq_getElem?_getD,List.getElem?_append_right (Nat.le_refl _)];simp
theorem pre_drop (pre m:List UInt8) (c:UInt8):(pre ++ c :: m).drop (pre.length + 1)=m:=by
 rw [List.drop_append];simp
theorem nat8 {n:Nat} (h:n < 256):(UInt8.ofNat n).toNat=n:=by simp;omega
theorem hd_tiny {m n it ck:Nat} {pre post:List UInt8} (h24:n < 24) (hm:m < 8) (hit:it < 256) (hck:ck=8∨ck=m):hdP (pre ++ (UInt8.ofNat (m * 32 + n) :: post)) pre.length it ck=.ok (m,n,n,1,pre.length + 1):=by
 unfold hdP;rw [pre_get,nat8 (by omega)];have h1:(m * 32 + n) % 32=n:=by omega
 have h2:(m * 32 + n) / 32=m:=by omega
 rw [h1,h2,if_neg (by omega),if_neg (by simp),if_neg (by omega),if_neg (by omega),if_neg (by omega),if_pos h24]
theorem hd_more {m n it ck k s:Nat} {pre post:List UInt8} (hks:k=1∧s=1∨k=2∧s=2∨k=3∧s=4∨k=4∧s=8) (hn:n < 256 ^ s) (hm:m < 8) (h7:m=7→k=1→32≤n) (hit:it < 256) (hck:ck=8∨ck=m):hdP (pre ++ (UInt8.ofNat (m * 32 + 23 + k) :: (It.be s n ++ post))) pre.length it ck=.ok (m,23 + k,n,1 + s,pre.length + 1 + s):=by
 unfold hdP;rw [pre_get,nat8 (by omega)];have h1:(m * 32 + 23 + k) % 32=23 + k:=by omega
 have h2:(m * 32 + 23 + k) / 32=m:=by omega
 have h3:2 ^ (23 + k - 24)=s:=by rcases hks with ⟨rfl,rfl⟩ | ⟨rfl,rfl⟩ | ⟨rfl,rfl⟩ | ⟨rfl,rfl⟩ <;> rfl
 rw [h1,h2,h3,pre_drop,List.take_append_of_le_length (by rw [It.be_length];omega),List.take_of_length_le (by rw [It.be_length];omega),It.unbe_be s n hn];rw [if_neg (by omega),if_neg (by simp),if_neg (by omega),if_neg (by omega),if_neg (by omega),if_neg (by omega),if_neg (by simp [It.be_length];omega),if_neg (fun h=>by have:=h7 h.1 (by omega);omega)]
theorem hd_GH {m n it ck:Nat} {h pre post:List UInt8} (hg:GH m n h) (hm:m < 7) (hit:it < 256) (hck:ck=8∨ck=m):∃ lw z,hdP (pre ++ (h ++ post)) pre.length it ck=.ok (m,lw,n,z,pre.length + h.length)∧lw < 28:=by
 cases hg with
 | tiny h24=>exact ⟨_,_,hd_tiny h24 (by omega) hit hck,by omega⟩
 | more k s hks hn=>
   have:=hd_more (pre:=pre) (post:=post) hks hn (show m < 8 by omega) (by omega) hit hck;refine ⟨23 + k,1 + s,?_,by omega⟩;rw [List.cons_append,this];simp [It.be_length];omega
theorem hd_open {m it:Nat} {pre post:List UInt8} (hm:2≤m∧m≤5) (hit:it < 256):hdP (pre ++ (UInt8.ofNat (m * 32 + 31) :: post)) pre.length it 8=.ok (m,31,0,1,pre.length + 1):=by
 unfold hdP;rw [pre_get,nat8 (by omega)];have h1:(m * 32 + 31) % 32=31:=by omega
 have h2:(m * 32 + 31) / 32=m:=by omega
 rw [h1,h2,if_neg (by omega),if_neg (by simp),if_neg (by omega),if_neg (by omega),if_pos rfl]
theorem GH.first {m n:Nat} {h:List UInt8} (hg:GH m n h) (hm:m < 7):∃ a t,h=a :: t∧a≠255:=by
 cases hg with
 | tiny h24=>exact ⟨_,_,rfl,fun e=>by have:=congrArg UInt8.toNat e;rw [nat8 (by omega)] at this;have h2:(255:UInt8).toNat=255:=rfl;omega⟩
 | more k s hks hn=>exact ⟨_,_,rfl,fun e=>by have:=congrArg UInt8.toNat e;rw [nat8 (by omega)] at this;have h2:(255:UInt8).toNat=255:=rfl;omega⟩
theorem hd_flt {n it:Nat} {pre post:List UInt8} (hn:n < 18446744073709551616) (hN:Fl.isNaN n=false∨n=Fl.nan) (hit:it < 256):∃ lw v z,hdP (pre ++ (It.flt n ++ post)) pre.length it 8=.ok (7,lw,v,z,pre.length + (It.flt n).length)∧25≤lw∧lw < 28∧valP lw v=n∧(n=Fl.nan→lw=25→v=32256):=by
 by_cases hx:n=Fl.nan
 ·have e:It.flt n=UInt8.ofNat (7 * 32 + 23 + 2) :: It.be 2 32256:=by rw [hx];decide +kernel
  have:=hd_more (m:=7) (n:=32256) (pre:=pre) (post:=post) (k:=2) (s:=2) (ck:=8) (by omega) (by omega) (by omega) (by omega) hit (.inl rfl);rw [e,List.cons_append,this];exact ⟨25,32256,_,by simp [It.be_length];rfl,by omega,by omega,by rw [hx];decide +kernel,fun _ _=>rfl⟩
 ·have hN:Fl.isNaN n=false:=hN.resolve_right hx
  cases hH:Fl.narrowH n with
  | some h=>
    obtain ⟨e1,e2,e3⟩:=Fl.narrowH_widen hn hH;rw [It.flt_half hN hH];have:=hd_more (m:=7) (n:=h) (pre:=pre) (post:=post) (k:=2) (s:=2) (ck:=8) (by omega) (by omega) (by omega) (by omega) hit (.inl rfl);refine ⟨25,h,1 + 2,?_,by omega,by omega,by unfold valP;rw [if_pos rfl,if_neg (by simp [e3])];exact e1,fun h=>absurd h hx⟩;rw [List.cons_append,show (249:UInt8)=UInt8.ofNat (7 * 32 + 23 + 2) from rfl,this];simp [It.be_length]
  | none=>
    cases hS:Fl.narrowS n with
    | some s=>
      obtain ⟨e1,e2,e3⟩:=Fl.narrowS_widen hn hS;rw [It.flt_single hN hH hS];have:=hd_more (m:=7) (n:=s) (pre:=pre) (post:=post) (k:=3) (s:=4) (ck:=8) (by omega) (by omega) (by omega) (by omega) hit (.inl rfl);refine ⟨26,s,1 + 4,?_,by omega,by omega,by unfold valP;rw [if_neg (by omega),if_pos rfl,if_neg (by simp [e3])];exact e1,fun h=>absurd h hx⟩;rw [List.cons_append,show (250:UInt8)=UInt8.ofNat (7 * 32 + 23 + 3) from rfl,this];simp [It.be_length]
    | none=>
      rw [It.flt_double hN hH hS];have:=hd_more (m:=7) (n:=n) (pre:=pre) (post:=post) (k:=4) (s:=8) (ck:=8) (by omega) (by omega) (by omega) (by omega) hit (.inl rfl);refine ⟨27,n,1 + 8,?_,by omega,by omega,by unfold valP;rw [if_neg (by omega),if_neg (by omega),if_neg (by simp [hN])],fun h=>absurd h hx⟩;rw [List.cons_append,show (251:UInt8)=UInt8.ofNat (7 * 32 + 23 + 4) from rfl,this];simp [It.be_length]
theorem loose_hd {b:List UInt8} {p it ck mj lw n z r:Nat} {h:List UInt8} {sub:List Gt} (e:hdP b p it ck=.ok (mj,lw,n,z,p + h.length)) (hl:lw < 28) (hm:mj < 7) (hh:h=It.head mj n) (hs:Gt.looses sub=false):Gt.loose (.mk mj lw p r n sub)=false:=by
 have h1:=(hdP_q e).1;have h2:h.length=shortP n:=by rw [hh,head_short]
 have h3:zsP lw=shortP n:=by omega
 unfold Gt.loose;rw [h3,hs];simp;omega
def GR (pf:Prop) (b:List UInt8) (R:Except Nat (Gt × Nat × Nat)) (x:It) (q j:Nat):Prop:=(256 < j∧∃ e,R=.error e)∨(j≤256∧∃ t,R=.ok (t,q,j)∧t.bad b=false∧t.cn b=some x∧(pf→t.loose=false))
def GRs (pf:Prop) (b:List UInt8) (R:Except Nat (List Gt × Nat × Nat)) (xs:List It) (q j:Nat):Prop:=(256 < j∧∃ e,R=.error e)∨(j≤256∧∃ l,R=.ok (l,q,j)∧Gt.bads b l=false∧Gt.cns b l=some xs∧(pf→Gt.looses l=false))
def GM (pf:Prop) (x:It) (l:List UInt8) (c:Nat):Prop:=1≤c∧(∃ a m,l=a :: m∧a≠255)∧∀ (pre post:List UInt8) (g lv it:Nat),it≤256→2 * (256 - it) + 1≤g→lv≤8→It.wf (8 - lv) x=true→GR pf (pre ++ (l ++ post)) (gi (pre ++ (l ++ post)) g lv pre.length it 8) x (pre.length + l.length) (it + c)
def GMs (pf:Prop) (xs:List It) (l:List UInt8) (c:Nat):Prop:=∀ (pre post:List UInt8) (g lv it:Nat),it≤256→2 * (256 - it) + 2≤g→lv≤8→It.wfs (8 - lv) xs=true→
 GRs pf (pre ++ (l ++ post)) (gl (pre ++ (l ++ post)) g lv pre.length it (some xs.length) 8) xs (pre.length + l.length) (it + c)∧
 GRs pf (pre ++ (l ++ 255 :: post)) (gl (pre ++ (l ++ 255 :: post)) g lv pre.length it none 8) xs (pre.length + l.length + 1) (it + c)
theorem GMs.nil {pf:Prop}:GMs pf [] [] 0:=fun pre post g lv it hit hg hlv hw=>by
 obtain ⟨g,rfl⟩:∃ k,g=k + 1:=⟨g - 1,by omega⟩;refine ⟨.inr ⟨hit,[],?_,rfl,rfl,fun _=>rfl⟩,.inr ⟨hit,[],?_,rfl,rfl,fun _=>rfl⟩⟩
 ·exact gl_zero
 ·refine gl_brk (brk_iff.2 ?_)
  rw [List.nil_append,List.getElem?_append_right (Nat.le_refl _)];simp
theorem gl_fst {b:List UInt8} {g lv p it:Nat} {c:Option Nat} {a:UInt8} {m:List UInt8} {pre:List UInt8} (hb:b=pre ++ a :: m) (hp:p=pre.length) (ha:a≠255) (h0:c≠some 0):gl b (g + 1) lv p it c 8=match gi b g lv p it 8 with
 | .error e=>.error e
 | .ok (t,q,i)=>match gl b g lv q i (c.map (· - 1)) 8 with
   | .error e=>.error e
   | .ok (l,r,j)=>.ok (t :: l,r,j):=by
 subst hb hp;refine gl_step h0 fun _=>?_
 unfold brk;rw [List.getElem?_append_right (Nat.le_refl _)];simpa using ha
theorem GRs.cons {pf:Prop} {b:List UInt8} {x:It} {xs:List It} {q1 c1 q2 j:Nat} {R1:Except Nat (Gt × Nat × Nat)} {F:Nat→Nat→Except Nat (List Gt × Nat × Nat)}:GR pf b R1 x q1 c1→c1≤j→(c1≤256→GRs pf b (F q1 c1) xs q2 j)→GRs pf b (match R1 with
 | .error e=>.error e
 | .ok (t,q,i)=>match F q i with
   | .error e=>.error e
   | .ok (l,r,j)=>.ok (t :: l,r,j)) (x :: xs) q2 j:=by
 intro h1 hj h2;rcases h1 with ⟨h,e,rfl⟩ | ⟨h,t,rfl,hb,hc,hp⟩
 ·exact .inl ⟨by omega,e,rfl⟩
 ·rcases h2 h with ⟨h3,e,h4⟩ | ⟨h3,l,h4,h5,h6,h7⟩
  ·refine .inl ⟨h3,e,?_⟩
   simp only [h4]
  ·refine .inr ⟨h3,t :: l,?_,?_,?_,fun p=>by simp [Gt.looses,hp p,h7 p]⟩
   ·simp only [h4]
   ·simp [Gt.bads,hb,h5]
   ·simp only [Gt.cns,hc,h6]
theorem GMs.cons {pf:Prop} {x:It} {xs:List It} {l m:List UInt8} {c d:Nat} (h:GM pf x l c) (hs:GMs pf xs m d):GMs pf (x :: xs) (l ++ m) (c + d):=fun pre post g lv it hit hg hlv hw=>by
 obtain ⟨g,rfl⟩:∃ k,g=k + 1:=⟨g - 1,by omega⟩;obtain ⟨hc,⟨a,t,rfl,ha⟩,h⟩:=h;unfold It.wfs at hw;rw [Bool.and_eq_true] at hw;constructor
 ·have e1:pre ++ (a :: t ++ m ++ post)=pre ++ (a :: t ++ (m ++ post)):=by simp
  have e2:pre ++ (a :: t ++ (m ++ post))=(pre ++ a :: t) ++ (m ++ post):=by simp
  rw [e1,gl_fst (pre:=pre) (a:=a) (m:=t ++ (m ++ post)) (by simp) rfl ha (by simp),Option.map_some,List.length_cons,Nat.add_sub_cancel];refine GRs.cons (j:=it + (c + d)) (F:=fun q i=>gl (pre ++ (a :: t ++ (m ++ post))) g lv q i (some xs.length) 8) (h pre (m ++ post) g lv it hit (by omega) hlv hw.1) (by omega) fun h256=>?_
  have:=(hs (pre ++ a :: t) post g lv (it + c) h256 (by omega) hlv hw.2).1;rw [← e2,List.length_append] at this;rw [List.length_append,← Nat.add_assoc,← Nat.add_assoc];exact this
 ·have e1:pre ++ (a :: t ++ m ++ 255 :: post)=pre ++ (a :: t ++ (m ++ 255 :: post)):=by simp
  have e2:pre ++ (a :: t ++ (m ++ 255 :: post))=(pre ++ a :: t) ++ (m ++ 255 :: post):=by simp
  rw [e1,gl_fst (pre:=pre) (a:=a) (m:=t ++ (m ++ 255 :: post)) (by simp) rfl ha (by simp),Option.map_none];refine GRs.cons (j:=it + (c + d)) (F:=fun q i=>gl (pre ++ (a :: t ++ (m ++ 255 :: post))) g lv q i none 8) (h pre (m ++ 255 :: post) g lv it hit (by omega) hlv hw.1) (by omega) fun h256=>?_
  have:=(hs (pre ++ a :: t) post g lv (it + c) h256 (by omega) hlv hw.2).2;rw [← e2,List.length_append] at this;rw [List.length_append,← Nat.add_assoc,← Nat.add_assoc];exact this
theorem GMs.one {pf:Prop} {x:It} {l:List UInt8} {c:Nat} (h:GM pf x l c):GMs pf [x] l c:=by simpa using GMs.cons h GMs.nil
theorem gi_full {b:List UInt8} {g lv p:Nat}:∃ e,gi b (g + 1) lv p 256 8=.error e:=⟨8,by rw [gi];unfold hdP;rw [if_pos rfl]⟩
theorem GR.full {pf:Prop} {b:List UInt8} {g lv p q c:Nat} {x:It} (hc:1≤c):GR pf b (gi b (g + 1) lv p 256 8) x q (256 + c):=.inl ⟨by omega,gi_full⟩
theorem GM.leaf {pf:Prop} {x:It} {l:List UInt8} (hl:∃ a m,l=a :: m∧a≠255) (h:∀ d,It.wf d x=true→∀ pre post it,it < 256→∃ mj lw v z,hdP (pre ++ (l ++ post)) pre.length it 8=.ok (mj,lw,v,z,pre.length + l.length)∧(mj < 2∨mj=7)∧(∀ b p r,Gt.it b (.mk mj lw p r v [])=x)∧(pf→∀ p r,Gt.loose (.mk mj lw p r v [])=false)):GM pf x l 1:=⟨Nat.le_refl _,hl,fun pre post g lv it hit hg hlv hw=>by
 obtain ⟨g,rfl⟩:∃ k,g=k + 1:=⟨g - 1,by omega⟩;rcases Nat.eq_or_lt_of_le hit with rfl | hlt
 ·exact .full (by omega)
 obtain ⟨mj,lw,v,z,e1,e2,e3,e4⟩:=h _ hw pre post it hlt;refine .inr ⟨by omega,.mk mj lw pre.length (pre.length + l.length) v [],?_,?_,?_,fun p=>e4 p _ _⟩
 ·rw [gi,e1]
  simp only;rw [if_neg (by omega),if_pos e2]
 ·unfold Gt.bad
  rw [show (mj==3)=false by simp;omega]
  rfl
 ·rw [Gt.cn,if_neg (by omega),e3]⟩
theorem GM.str {pf:Prop} {x:It} {m:Nat} {h:List UInt8} (hk:x.kind=m) (hm:m=2∨m=3) (hg:GH m x.bytes.length h) (hp:pf→h=It.head m x.bytes.length):GM pf x (h ++ x.bytes) 1:=⟨Nat.le_refl _,(by
 obtain ⟨a,t,rfl,ha⟩:=hg.first (by omega);exact ⟨a,t ++ x.bytes,rfl,ha⟩),fun pre post g lv it hit hf hlv hw=>by
 obtain ⟨g,rfl⟩:∃ k,g=k + 1:=⟨g - 1,by omega⟩;rcases Nat.eq_or_lt_of_le hit with rfl | hlt
 ·exact .full (by omega)
 obtain ⟨k,n,b,ks⟩:=x;obtain rfl:k=m:=hk
 replace hg:GH m b.length h:=hg
 replace hp:pf→h=It.head m b.length:=hp
 show GR pf _ _ (.mk (m:Int) n b ks) (pre.length + (h ++ b).length) (it + 1)
 show GR pf (pre ++ ((h ++ b) ++ post)) (gi (pre ++ ((h ++ b) ++ post)) (g + 1) lv pre.length it 8) _ _ _
 obtain ⟨lw,z,e1,e2⟩:=hd_GH (pre:=pre) (post:=b ++ post) hg (by omega) hlt (.inl rfl);have eb:pre ++ (h ++ b ++ post)=pre ++ (h ++ (b ++ post)):=by simp
 have hd:((pre ++ (h ++ (b ++ post))).drop (pre.length + h.length + b.length - b.length)).take b.length=b:=by
  rw [Nat.add_sub_cancel,show pre ++ (h ++ (b ++ post))=(pre ++ h) ++ (b ++ post) by simp,← List.length_append,List.drop_left,List.take_left]
 have hwf:n=0∧ks=[]∧(m=3→Lib.validD b=true):=by
  unfold It.wf at hw;rcases hm with rfl | rfl <;> simp at hw <;> simp [hw]
 obtain ⟨rfl,rfl,hv⟩:=hwf;refine .inr ⟨by omega,.mk m lw pre.length (pre.length + h.length + b.length) b.length [],?_,?_,?_,fun p=>loose_hd e1 (by omega) (by omega) (hp p) rfl⟩
 ·rw [eb,gi,e1]
  simp only;rw [if_pos hm,if_neg (by omega),if_pos (by simp;omega)];simp [Nat.add_assoc]
 ·rw [eb]
  unfold Gt.bad;rw [hd];rcases hm with rfl | rfl
  ·rfl
  ·rw [hv rfl];simp [Gt.bads]
 ·rw [eb,Gt.cn,if_neg (by omega),Gt.it,if_pos hm,if_neg (by omega),hd]⟩
theorem GM.cut {pf:Prop} {x:It} {m i:Nat} {h h':List UInt8} (hk:x.kind=m) (hm:m=2∨m=3) (hi:i≤x.bytes.length) (hc:m=3→0 < i→(hi:i < x.bytes.length)→¬ (x.bytes[i].toNat &&& 192=128)) (hg:GH m i h) (hg':GH m (x.bytes.length - i) h') (hp:¬ pf):GM pf x (UInt8.ofNat (m * 32 + 31) :: h ++ x.bytes.take i ++ h' ++ x.bytes.drop i ++ [255]) 3:=⟨by omega,⟨_,_,by simp only [List.cons_append,List.append_assoc];rfl,fun e=>by have:=congrArg UInt8.toNat e;rw [nat8 (by omega)] at this;have h2:(255:UInt8).toNat=255:=rfl;omega⟩,fun pre post g lv it hit hf hlv hw=>by
 obtain ⟨k,n,b,ks⟩:=x;obtain rfl:k=m:=hk
 replace hg':GH m (b.length - i) h':=hg'
 replace hi:i≤b.length:=hi
 replace hc:m=3→0 < i→(hi:i < b.length)→¬ (b[i].toNat &&& 192=128):=hc
 obtain ⟨g,rfl⟩:∃ k,g=k + 1:=⟨g - 1,by omega⟩;rcases Nat.eq_or_lt_of_le hit with rfl | hlt
 ·exact .full (by omega)
 have hwf:n=0∧ks=[]∧(m=3→Lib.validD b=true):=by
  unfold It.wf at hw;rcases hm with rfl | rfl <;> simp at hw <;> simp [hw]
 obtain ⟨rfl,rfl,hv⟩:=hwf
 show GR pf (pre ++ (UInt8.ofNat (m * 32 + 31) :: h ++ b.take i ++ h' ++ b.drop i ++ [255] ++ post)) _ _ (pre.length + (UInt8.ofNat (m * 32 + 31) :: h ++ b.take i ++ h' ++ b.drop i ++ [255]).length) _
 show GR pf _ (gi (pre ++ (UInt8.ofNat (m * 32 + 31) :: h ++ b.take i ++ h' ++ b.drop i ++ [255] ++ post)) _ _ _ _ _) _ _ _
 have eb:pre ++ (UInt8.ofNat (m * 32 + 31) :: h ++ b.take i ++ h' ++ b.drop i ++ [255] ++ post)=pre ++ (UInt8.ofNat (m * 32 + 31) :: (h ++ (b.take i ++ (h' ++ (b.drop i ++ 255 :: post))))):=by simp
 have e1:pre ++ (UInt8.ofNat (m * 32 + 31) :: (h ++ (b.take i ++ (h' ++ (b.drop i ++ 255 :: post)))))=(pre ++ [UInt8.ofNat (m * 32 + 31)]) ++ (h ++ (b.take i ++ (h' ++ (b.drop i ++ 255 :: post)))):=by simp
 have e2:pre ++ (UInt8.ofNat (m * 32 + 31) :: (h ++ (b.take i ++ (h' ++ (b.drop i ++ 255 :: post)))))=(pre ++ UInt8.ofNat (m * 32 + 31) :: (h ++ b.take i)) ++ (h' ++ (b.drop i ++ 255 :: post)):=by simp
 have e3:pre ++ (UInt8.ofNat (m * 32 + 31) :: (h ++ (b.take i ++ (h' ++ (b.drop i ++ 255 :: post)))))=(pre ++ UInt8.ofNat (m * 32 + 31) :: (h ++ (b.take i ++ (h' ++ b.drop i)))) ++ 255 :: post:=by simp
 have e4:pre ++ (UInt8.ofNat (m * 32 + 31) :: (h ++ (b.take i ++ (h' ++ (b.drop i ++ 255 :: post)))))=(pre ++ UInt8.ofNat (m * 32 + 31) :: h) ++ (b.take i ++ (h' ++ (b.drop i ++ 255 :: post))):=by simp
 have e5:pre ++ (UInt8.ofNat (m * 32 + 31) :: (h ++ (b.take i ++ (h' ++ (b.drop i ++ 255 :: post)))))=(pre ++ UInt8.ofNat (m * 32 + 31) :: (h ++ (b.take i ++ h'))) ++ (b.drop i ++ 255 :: post):=by simp
 have l1:(b.take i).length=i:=by simp;omega
 have l2:(b.drop i).length=b.length - i:=by simp
 rw [eb];have hlen:(UInt8.ofNat (m * 32 + 31) :: h ++ b.take i ++ h' ++ b.drop i ++ [255]).length=1 + h.length + i + h'.length + (b.length - i) + 1:=by simp [l1];omega
 rw [hlen];have hd1:=fun it (hit:it < 256)=>hd_GH (pre:=pre ++ [UInt8.ofNat (m * 32 + 31)]) (post:=b.take i ++ (h' ++ (b.drop i ++ 255 :: post))) (ck:=m) hg (by omega) hit (.inr rfl)
 rw [← e1] at hd1;have hd2:=fun it (hit:it < 256)=>hd_GH (pre:=pre ++ UInt8.ofNat (m * 32 + 31) :: (h ++ b.take i)) (post:=b.drop i ++ 255 :: post) (ck:=m) hg' (by omega) hit (.inr rfl)
 rw [← e2] at hd2;have p1:(pre ++ [UInt8.ofNat (m * 32 + 31)]).length=pre.length + 1:=by simp
 have p2:(pre ++ UInt8.ofNat (m * 32 + 31) :: (h ++ b.take i)).length=pre.length + 1 + h.length + i:=by simp [l1];omega
 rw [p1] at hd1;rw [p2] at hd2;obtain ⟨a1,t1,hh1,ha1⟩:=hg.first (by omega);obtain ⟨a2,t2,hh2,ha2⟩:=hg'.first (by omega);have br1:brk (pre ++ (UInt8.ofNat (m * 32 + 31) :: (h ++ (b.take i ++ (h' ++ (b.drop i ++ 255 :: post)))))) (pre.length + 1)=false:=by
  unfold brk;rw [e1,← p1,List.getElem?_append_right (Nat.le_refl _),hh1];simpa using ha1
 have br2:brk (pre ++ (UInt8.ofNat (m * 32 + 31) :: (h ++ (b.take i ++ (h' ++ (b.drop i ++ 255 :: post)))))) (pre.length + 1 + h.length + i)=false:=by
  unfold brk;rw [e2,← p2,List.getElem?_append_right (Nat.le_refl _),hh2];simpa using ha2
 have br3:brk (pre ++ (UInt8.ofNat (m * 32 + 31) :: (h ++ (b.take i ++ (h' ++ (b.drop i ++ 255 :: post)))))) (pre.length + 1 + h.length + i + h'.length + (b.length - i))=true:=by
  rw [brk_iff,e3,List.getElem?_append_right (by simp [l1];omega)];rw [show pre.length + 1 + h.length + i + h'.length + (b.length - i) - (pre ++ UInt8.ofNat (m * 32 + 31) :: (h ++ (b.take i ++ (h' ++ b.drop i)))).length=0 by simp [l1];omega]
  rfl
 have s1:((pre ++ (UInt8.ofNat (m * 32 + 31) :: (h ++ (b.take i ++ (h' ++ (b.drop i ++ 255 :: post)))))).drop (pre.length + 1 + h.length)).take i=b.take i:=by
  rw [e4,show pre.length + 1 + h.length=(pre ++ UInt8.ofNat (m * 32 + 31) :: h).length by simp;omega,List.drop_left];exact List.take_left' l1
 have s2:((pre ++ (UInt8.ofNat (m * 32 + 31) :: (h ++ (b.take i ++ (h' ++ (b.drop i ++ 255 :: post)))))).drop (pre.length + 1 + h.length + i + h'.length)).take (b.length - i)=b.drop i:=by
  rw [e5,show pre.length + 1 + h.length + i + h'.length=(pre ++ UInt8.ofNat (m * 32 + 31) :: (h ++ (b.take i ++ h'))).length by simp [l1];omega,List.drop_left];exact List.take_left' l2
 have hB:pre.length + 1 + h.length + i + h'.length + (b.length - i) < (pre ++ (UInt8.ofNat (m * 32 + 31) :: (h ++ (b.take i ++ (h' ++ (b.drop i ++ 255 :: post)))))).length:=by simp [l1];omega
 have ho:=hd_open (m:=m) (pre:=pre) (post:=h ++ (b.take i ++ (h' ++ (b.drop i ++ 255 :: post)))) (by omega) hlt;generalize pre ++ (UInt8.ofNat (m * 32 + 31) :: (h ++ (b.take i ++ (h' ++ (b.drop i ++ 255 :: post)))))=B at *;clear e1 e2 e3 e4 e5 eb hlen hh1 hh2 p1 p2;have hgi:∀ R,gl B g lv (pre.length + 1) (it + 1) none m=R→gi B (g + 1) lv pre.length it 8=match R with | .error e=>.error e | .ok (l,r,i)=>.ok (.mk m 31 pre.length r 0 l,r,i):=fun R hR=>by
  rw [gi,ho];simp only;rw [if_pos hm,if_pos trivial,hR];cases R <;> rfl
 obtain ⟨g,rfl⟩:∃ k,g=k + 2:=⟨g - 2,by omega⟩;rcases Nat.eq_or_lt_of_le (show it + 1≤256 by omega) with h256 | hlt1
 ·refine .inl ⟨by omega,8,?_⟩
  have:=hgi (.error 8) (by rw [gl_chunk hm br1,h256];unfold hdP;rw [if_pos rfl]);rw [this]
 obtain ⟨lw1,z1,c1,c2⟩:=hd1 (it + 1) hlt1;have hg1:=gl_chunk (g:=g) (lv:=lv) (it:=it + 1) hm br1;rw [c1] at hg1;simp only at hg1;rw [if_pos (by omega)] at hg1;obtain ⟨g,rfl⟩:∃ k,g=k + 1:=⟨g - 1,by omega⟩;rcases Nat.eq_or_lt_of_le (show it + 1 + 1≤256 by omega) with h256 | hlt2
 ·refine .inl ⟨by omega,8,?_⟩
  have:=hgi (.error 8) (by rw [hg1,gl_chunk hm br2,h256];unfold hdP;rw [if_pos rfl]);rw [this]
 obtain ⟨lw2,z2,d1,d2⟩:=hd2 (it + 1 + 1) hlt2;have hg2:=gl_chunk (g:=g) (lv:=lv) (it:=it + 1 + 1) hm br2;rw [d1] at hg2;simp only at hg2;rw [if_pos (by omega),gl_brk br3] at hg2;simp only at hg2;rw [hg2] at hg1;simp only at hg1;have:=hgi _ hg1;simp only at this;refine .inr ⟨by omega,.mk m 31 pre.length (pre.length + 1 + h.length + i + h'.length + (b.length - i) + 1) 0 [.mk m lw1 (pre.length + 1) (pre.length + 1 + h.length + i) i [],.mk m lw2 (pre.length + 1 + h.length + i) (pre.length + 1 + h.length + i + h'.length + (b.length - i)) (b.length - i) []],this.trans ?_,?_,?_,fun p=>absurd p hp⟩
 ·congr 3 <;> omega
 ·unfold Gt.bad Gt.bads Gt.bads Gt.bads
  have q1:pre.length + 1 + h.length + i - i=pre.length + 1 + h.length:=by omega
  have q2:pre.length + 1 + h.length + i + h'.length + (b.length - i) - (b.length - i)=pre.length + 1 + h.length + i + h'.length:=by omega
  rw [Gt.bad_flat (by omega),Gt.bad_flat (by omega),q1,q2,s1,s2];rcases hm with rfl | rfl
  ·rfl
  ·have hv:=hv rfl
   have v1:=validD_pre b.length b i (Nat.le_refl _) hv fun h0 hi=>hc rfl h0 hi
   have v2:=validD_app (b.drop i) _ (b.take i) (Nat.le_refl _) v1;rw [List.take_append_drop,hv] at v2;rw [v1,← v2];rfl
 ·have q1:pre.length + 1 + h.length + i - i=pre.length + 1 + h.length:=by omega
  have q2:pre.length + 1 + h.length + i + h'.length + (b.length - i) - (b.length - i)=pre.length + 1 + h.length + i + h'.length:=by omega
  rw [Gt.cn,if_neg (by omega),Gt.it,if_pos hm,if_pos rfl];simp only [Gt.strs,List.flatMap_cons,List.flatMap_nil,Gt.str,Gt.en,Gt.n,q1,q2,s1,s2,List.append_nil,List.take_append_drop]⟩
theorem GM.box {pf:Prop} {x:It} {m n c:Nat} {h l:List UInt8} {ks':List It} (hm:4≤m∧m≤6) (hg:GH m n h) (hp:pf→h=It.head m n) (hcnt:cntP m n=ks'.length) (hs:GMs pf ks' l c)
 (sem:∀ lv,lv≤8→It.wf (8 - lv) x=true→lv < 8∧It.wfs (8 - (lv + 1)) ks'=true∧∀ b lw p r sub,Gt.cns b sub=some ks'→Gt.cn b (.mk m lw p r n sub)=some x):GM pf x (h ++ l) (1 + c):=⟨by omega,(by
 obtain ⟨a,t,rfl,ha⟩:=hg.first (by omega);exact ⟨a,t ++ l,rfl,ha⟩),fun pre post g lv it hit hf hlv hw=>by
 obtain ⟨g,rfl⟩:∃ k,g=k + 1:=⟨g - 1,by omega⟩;rcases Nat.eq_or_lt_of_le hit with rfl | hlt
 ·exact .full (by omega)
 obtain ⟨h8,hwk,hsem⟩:=sem lv hlv hw;obtain ⟨lw,z,e1,e2⟩:=hd_GH (pre:=pre) (post:=l ++ post) hg (by omega) hlt (.inl rfl);have eb:pre ++ (h ++ l ++ post)=pre ++ (h ++ (l ++ post)):=by simp
 have eb2:pre ++ (h ++ (l ++ post))=(pre ++ h) ++ (l ++ post):=by simp
 have:=(hs (pre ++ h) post g (lv + 1) (it + 1) (by omega) (by omega) (by omega) hwk).1;rw [← eb2,List.length_append,← hcnt] at this;rw [eb,List.length_append];have hgi:∀ R,gl (pre ++ (h ++ (l ++ post))) g (lv + 1) (pre.length + h.length) (it + 1) (some (cntP m n)) 8=R→gi (pre ++ (h ++ (l ++ post))) (g + 1) lv pre.length it 8=match R with | .error e=>.error e | .ok (l,r,i)=>.ok (.mk m lw pre.length r n l,r,i):=fun R hR=>by
  rw [gi,e1];simp only;rw [if_neg (by omega),if_neg (by omega),if_neg (by omega),if_neg (by omega),hR];cases R with
  | error e=>rfl
  | ok y=>obtain ⟨l,r,i⟩:=y;simp only;rw [if_neg (by omega)]
 rw [hgi _ rfl];rcases this with ⟨h1,e,h2⟩ | ⟨h1,sub,h2,h3,h4,h5⟩
 ·exact .inl ⟨by omega,e,by rw [h2]⟩
 ·refine .inr ⟨by omega,.mk m lw pre.length (pre.length + h.length + l.length) n sub,by rw [h2];simp only;congr 3 <;> omega,?_,hsem _ _ _ _ _ h4,fun p=>loose_hd e1 (by omega) (by omega) (hp p) (h5 p)⟩
  unfold Gt.bad;rw [show (m==3)=false by simp;omega,h3];rfl⟩
theorem GM.boxO {pf:Prop} {x:It} {m c:Nat} {l:List UInt8} {ks':List It} (hp:¬ pf) (hm:m=4∨m=5∧ks'.length % 2=0) (hs:GMs pf ks' l c)
 (sem:∀ lv,lv≤8→It.wf (8 - lv) x=true→lv < 8∧It.wfs (8 - (lv + 1)) ks'=true∧∀ b lw p r sub,Gt.cns b sub=some ks'→Gt.cn b (.mk m lw p r 0 sub)=some x):GM pf x (UInt8.ofNat (m * 32 + 31) :: l ++ [255]) (1 + c):=⟨by omega,⟨_,_,rfl,fun e=>by have:=congrArg UInt8.toNat e;rw [nat8 (by omega)] at this;have h2:(255:UInt8).toNat=255:=rfl;omega⟩,fun pre post g lv it hit hf hlv hw=>by
 obtain ⟨g,rfl⟩:∃ k,g=k + 1:=⟨g - 1,by omega⟩;rcases Nat.eq_or_lt_of_le hit with rfl | hlt
 ·exact .full (by omega)
 obtain ⟨h8,hwk,hsem⟩:=sem lv hlv hw;have e1:=hd_open (m:=m) (pre:=pre) (post:=l ++ 255 :: post) (by omega) hlt;have eb:pre ++ (UInt8.ofNat (m * 32 + 31) :: l ++ [255] ++ post)=pre ++ (UInt8.ofNat (m * 32 + 31) :: (l ++ 255 :: post)):=by simp
 have eb2:pre ++ (UInt8.ofNat (m * 32 + 31) :: (l ++ 255 :: post))=(pre ++ [UInt8.ofNat (m * 32 + 31)]) ++ (l ++ 255 :: post):=by simp
 have:=(hs (pre ++ [UInt8.ofNat (m * 32 + 31)]) post g (lv + 1) (it + 1) (by omega) (by omega) (by omega) hwk).2;rw [← eb2,List.length_append] at this;rw [eb];rcases this with ⟨h1,e,h2⟩ | ⟨h1,sub,h2,h3,h4,h5⟩
 ·refine .inl ⟨by omega,e,?_⟩
  rw [gi,e1];simp only
  replace h2:gl (pre ++ UInt8.ofNat (m * 32 + 31) :: (l ++ 255 :: post)) g (lv + 1) (pre.length + 1) (it + 1) none 8=.error e:=h2
  rw [if_neg (by omega),if_neg (by omega),if_neg (by omega),if_pos trivial,h2]
 ·refine .inr ⟨by omega,.mk m 31 pre.length (pre.length + 1 + l.length + 1) 0 sub,?_,?_,hsem _ _ _ _ _ h4,fun p=>absurd p hp⟩
  ·rw [gi,e1]
   simp only
   replace h2:gl (pre ++ UInt8.ofNat (m * 32 + 31) :: (l ++ 255 :: post)) g (lv + 1) (pre.length + 1) (it + 1) none 8=.ok (sub,pre.length + 1 + l.length + 1,it + 1 + c):=h2
   rw [if_neg (by omega),if_neg (by omega),if_neg (by omega),if_pos trivial,h2];simp only;have:=Gt.cns_len h4;rw [if_neg (by omega)];congr 3
   ·simp;omega
   ·omega
  ·unfold Gt.bad
   rw [show (m==3)=false by simp;omega,h3];rfl⟩
theorem loose_flt {b:List UInt8} {p it ck lw v z r n:Nat} (e:hdP b p it ck=.ok (7,lw,v,z,p + (It.flt n).length)) (h25:25≤lw) (hl:lw < 28) (hv:valP lw v=n) (hn:n=Fl.nan→lw=25→v=32256):Gt.loose (.mk 7 lw p r v [])=false:=by
 have h1:=(hdP_q e).1;have h3:(It.flt (valP lw v)).length=zsP lw:=by rw [hv];omega
 have h4:loose7 lw v=false:=by
  unfold loose7;rw [h3];by_cases h:lw=25
  ·subst h
   rw [hv];by_cases hx:n=Fl.nan
   ·rw [hn hx rfl];simp
   ·simp [hx]
  ·simp [h]
 unfold Gt.loose;rw [h4];simp [Gt.looses];omega
inductive ML (pf:Prop):List It→List UInt8→Nat→Prop
 | nil:ML pf [] [] 0
 | cons {x:It} {xs:List It} {l m:List UInt8} {c d:Nat}:GM pf x l c→ML pf xs m d→ML pf (x :: xs) (l ++ m) (c + d)
theorem ML.snoc {pf:Prop} {xs:List It} {l:List UInt8} {c:Nat} (h:ML pf xs l c) {y:It} {m:List UInt8} {d:Nat} (hy:GM pf y m d):ML pf (xs ++ [y]) (l ++ m) (c + d):=by
 induction h with
 | nil=>simpa using ML.cons hy .nil
 | cons hx _ ih=>rw [List.cons_append,List.append_assoc,Nat.add_assoc];exact .cons hx ih
theorem ML.gms {pf:Prop} {xs:List It} {l:List UInt8} {c:Nat} (h:ML pf xs l c):GMs pf xs l c:=by
 induction h with
 | nil=>exact .nil
 | cons hx _ ih=>exact .cons hx ih
theorem sem_arr {x:It} (hk:x.kind=4) (n:Nat):∀ lv,lv≤8→It.wf (8 - lv) x=true→lv < 8∧It.wfs (8 - (lv + 1)) x.kids=true∧∀ b lw p r sub,Gt.cns b sub=some x.kids→Gt.cn b (.mk 4 lw p r n sub)=some x:=fun lv hlv hw=>by
 obtain ⟨k,n',b',ks⟩:=x;obtain rfl:k=4:=hk;unfold It.wf at hw;simp at hw;obtain ⟨_,⟨⟨h1,h2⟩,h3⟩,h4⟩:=hw;refine ⟨by omega,by rw [show 8 - (lv + 1)=8 - lv - 1 by omega];exact h4,fun b lw p r sub hs=>?_⟩;have hs:Gt.cns b sub=some ks:=hs;rw [Gt.cn,if_pos (by omega),hs,h1,h3]
 rfl
theorem sem_tag {x:It} (hk:x.kind=6):∀ lv,lv≤8→It.wf (8 - lv) x=true→lv < 8∧It.wfs (8 - (lv + 1)) x.kids=true∧∀ b lw p r sub,Gt.cns b sub=some x.kids→Gt.cn b (.mk 6 lw p r x.num sub)=some x:=fun lv hlv hw=>by
 obtain ⟨k,n',b',ks⟩:=x;obtain rfl:k=6:=hk;unfold It.wf at hw;simp at hw;obtain ⟨_,⟨⟨h1,h2⟩,h3⟩,h4⟩:=hw;refine ⟨by omega,by rw [show 8 - (lv + 1)=8 - lv - 1 by omega];exact h4,fun b lw p r sub hs=>?_⟩;have hs:Gt.cns b sub=some ks:=hs;rw [Gt.cn,if_pos (by omega),hs,h1]
 rfl
theorem pairs_rot:∀ (l:List It) (f:Nat),l.length % 2=0→It.pairsK (l.drop (2 * f) ++ l.take (2 * f))=(It.pairsK l).drop f ++ (It.pairsK l).take f:=by
 have app:∀ (n:Nat) (l m:List It),l.length=2 * n→It.pairsK (l ++ m)=It.pairsK l ++ It.pairsK m:=by
  intro n
  induction n with
  | zero=>intro l m h;obtain rfl:l=[]:=List.length_eq_zero_iff.1 h;rfl
  | succ n ih=>
    intro l m h
    match l,h with
    | k :: v :: l,h=>show (k,v) :: It.pairsK (l ++ m)=_;rw [ih l m (by simp at h;omega)];rfl
 have tk:∀ (f:Nat) (l:List It),l.length % 2=0→It.pairsK (l.take (2 * f))=(It.pairsK l).take f∧It.pairsK (l.drop (2 * f))=(It.pairsK l).drop f:=by
  intro f
  induction f with
  | zero=>intro l _;simp [It.pairsK]
  | succ f ih=>
    intro l h
    match l,h with
    | [],_=>simp [It.pairsK]
    | k :: v :: l,h=>
      have:=ih l (by simp at h;omega);rw [show 2 * (f + 1)=2 * f + 1 + 1 by omega];simp only [List.take_succ_cons,List.drop_succ_cons,It.pairsK];exact ⟨by rw [this.1],this.2⟩
 intro l f h;rcases Nat.le_total (2 * f) l.length with hl | hl
 ·rw [app ((l.length - 2 * f) / 2) _ _ (by rw [List.length_drop];omega),(tk f l h).1,(tk f l h).2]
 ·rw [app 0 _ _ (by rw [List.length_drop];omega),(tk f l h).1,(tk f l h).2]
theorem wfs_app (d:Nat) (l m:List It):It.wfs d (l ++ m)=(It.wfs d l && It.wfs d m):=by
 induction l with
 | nil=>simp [It.wfs]
 | cons y l ih=>simp [It.wfs,ih,Bool.and_assoc]
theorem wfs_rot {d:Nat} {ks:List It} (f:Nat) (hd:It.wfs d ks=true):It.wfs d (ks.drop (2 * f) ++ ks.take (2 * f))=true:=by
 rw [wfs_app,Bool.and_comm,← wfs_app,List.take_append_drop];exact hd
theorem sem_map {x:It} (hk:x.kind=5) (f n:Nat):∀ lv,lv≤8→It.wf (8 - lv) x=true→lv < 8∧It.wfs (8 - (lv + 1)) (x.kids.drop (2 * f) ++ x.kids.take (2 * f))=true∧∀ b lw p r sub,Gt.cns b sub=some (x.kids.drop (2 * f) ++ x.kids.take (2 * f))→Gt.cn b (.mk 5 lw p r n sub)=some x:=fun lv hlv hw=>by
 obtain ⟨k,n',b',ks⟩:=x;obtain rfl:k=5:=hk;unfold It.wf at hw;simp at hw;obtain ⟨_,⟨⟨⟨h1,h2⟩,h3⟩,h5,h6⟩,h4⟩:=hw;refine ⟨by omega,by rw [show 8 - (lv + 1)=8 - lv - 1 by omega];exact wfs_rot f h4,fun b lw p r sub hs=>?_⟩;have hs:Gt.cns b sub=some (ks.drop (2 * f) ++ ks.take (2 * f)):=hs;have hfl:=It.flatK_pairsK ks h5;have hpw:(It.pairsK ks).Pairwise It.klt:=(It.asc_none _).1 (by rw [hfl];exact h6);have hperm:(It.pairsK (ks.drop (2 * f) ++ ks.take (2 * f))).Perm (It.pairsK ks):=by
  rw [pairs_rot ks f h5];exact (List.perm_append_comm).trans (by rw [List.take_append_drop])
 have hsort:=It.sort_uniq hperm.symm hpw;rw [Gt.cn,if_pos (by omega),hs,h1,h3];simp only [if_true];unfold It.mapC;rw [← hsort,hfl,if_pos h6]
 rfl
theorem gm_num {pf:Prop} {x:It} {m:Nat} {h:List UInt8} (hk:x.kind=m) (hm:m < 2) (hg:GH m x.num h) (hp:pf→h=It.head m x.num):GM pf x h 1:=by
 refine .leaf (hg.first (by omega)) fun d hw pre post it hit=>?_
 obtain ⟨lw,z,e1,e2⟩:=hd_GH (pre:=pre) (post:=post) hg (by omega) hit (.inl rfl);refine ⟨m,lw,x.num,z,e1,.inl hm,fun b p r=>?_,fun p a r=>?_⟩
 ·obtain ⟨k,n,b',ks⟩:=x
  obtain rfl:k=m:=hk;have hwf:b'=[]∧ks=[]:=by
   unfold It.wf at hw;rcases (show m=0∨m=1 by omega) with rfl | rfl <;> simp at hw <;> simp [hw]
  obtain ⟨rfl,rfl⟩:=hwf;rw [Gt.it,if_neg (by omega),if_pos hm];rfl
 ·have:=loose_hd (r:=r) (sub:=[]) e1 (by omega) (by omega) (hp p) rfl
  unfold Gt.loose at this ⊢;exact this
theorem gm_enc {pf:Prop} {x:It} (hk:x.kind=7∨x.kind=8) (hd:∃ d,It.wf d x=true):GM pf x x.enc 1:=by
 obtain ⟨k,n,b',ks⟩:=x;obtain ⟨d0,hd0⟩:=hd;rcases hk with rfl | rfl
 ·have hwf:b'=[]∧ks=[]∧(n < 24∨32≤n∧n < 256):=by
   unfold It.wf at hd0;simp at hd0;obtain ⟨_,⟨h1,h2⟩,h3⟩:=hd0;exact ⟨h1,h2,h3⟩
  obtain ⟨rfl,rfl,hn⟩:=hwf;by_cases h24:n < 24
  ·have e:It.enc (.mk 7 n [] [])=[UInt8.ofNat (7 * 32 + n)]:=by unfold It.enc;simp [h24]
   rw [e];refine .leaf ⟨_,_,rfl,fun e=>by have:=congrArg UInt8.toNat e;rw [nat8 (by omega)] at this;have h2:(255:UInt8).toNat=255:=rfl;omega⟩ fun d hw pre post it hit=>?_
   refine ⟨7,n,n,1,hd_tiny h24 (by omega) hit (.inl rfl),.inr rfl,fun b p r=>?_,fun _ p r=>?_⟩
   ·rw [Gt.it,if_neg (by omega),if_neg (by omega),if_pos rfl,if_neg (by omega)]
   ·unfold Gt.loose loose7
    simp [Gt.looses];omega
  ·have e:It.enc (.mk 7 n [] [])=UInt8.ofNat (7 * 32 + 23 + 1) :: It.be 1 n:=by
    unfold It.enc;simp [h24];simp [It.be]
   rw [e];refine .leaf ⟨_,_,rfl,fun e=>by have:=congrArg UInt8.toNat e;rw [nat8 (by omega)] at this;have h2:(255:UInt8).toNat=255:=rfl;omega⟩ fun d hw pre post it hit=>?_
   have:=hd_more (m:=7) (n:=n) (pre:=pre) (post:=post) (k:=1) (s:=1) (ck:=8) (by omega) (by omega) (by omega) (by omega) hit (.inl rfl);refine ⟨7,24,n,2,?_,.inr rfl,fun b p r=>?_,fun _ p r=>?_⟩
   ·rw [List.cons_append,this];simp [It.be_length]
   ·rw [Gt.it,if_neg (by omega),if_neg (by omega),if_pos rfl,if_neg (by omega)]
   ·unfold Gt.loose loose7
    simp [Gt.looses]
 ·have hwf:n < 18446744073709551616∧b'=[]∧ks=[]∧(Fl.isNaN n=false∨n=Fl.nan):=by
   unfold It.wf at hd0;simp at hd0;obtain ⟨h0,⟨h1,h2⟩,h3⟩:=hd0;exact ⟨h0,h1,h2,h3⟩
  obtain ⟨hn0,rfl,rfl,hn⟩:=hwf;have e:It.enc (.mk 8 n [] [])=It.flt n:=by unfold It.enc;simp
  rw [e];refine .leaf ?_ fun d hw pre post it hit=>?_
  ·unfold It.flt
   split
   ·exact ⟨_,_,rfl,by decide⟩
   ·split
    ·exact ⟨_,_,rfl,by decide⟩
    ·split
     ·exact ⟨_,_,rfl,by decide⟩
     ·exact ⟨_,_,rfl,by decide⟩
  ·obtain ⟨lw,v,z,h1,h2,h3,h4,h5⟩:=hd_flt (pre:=pre) (post:=post) hn0 hn hit
   refine ⟨7,lw,v,z,h1,.inr rfl,fun b p r=>?_,fun _ p r=>?_⟩
   ·rw [Gt.it,if_neg (by omega),if_neg (by omega),if_pos rfl,if_pos h2,h4]
   ·have:=loose_flt (r:=r) h1 h2 h3 h4 h5
    unfold Gt.loose at this ⊢;exact this
theorem gm_flt {pf:Prop} {x:It} (hk:x.kind=8) (hp:¬ pf) (hd:∃ d,It.wf d x=true):GM pf x (251 :: It.be 8 x.num) 1:=by
 obtain ⟨k,n,b',ks⟩:=x;obtain ⟨d0,hd0⟩:=hd;obtain rfl:k=8:=hk;have hwf:n < 18446744073709551616∧b'=[]∧ks=[]∧(Fl.isNaN n=false∨n=Fl.nan):=by
  unfold It.wf at hd0;simp at hd0;obtain ⟨h0,⟨h1,h2⟩,h3⟩:=hd0;exact ⟨h0,h1,h2,h3⟩
 obtain ⟨hn0,rfl,rfl,hn⟩:=hwf;refine .leaf ⟨_,_,rfl,by decide⟩ fun d hw pre post it hit=>?_
 have:=hd_more (m:=7) (n:=n) (pre:=pre) (post:=post) (k:=4) (s:=8) (ck:=8) (by omega) (by omega) (by omega) (by omega) hit (.inl rfl);refine ⟨7,27,n,9,?_,.inr rfl,fun b p r=>?_,fun p=>absurd p hp⟩
 ·rw [List.cons_append,show (251:UInt8)=UInt8.ofNat (7 * 32 + 23 + 4) from rfl]
  refine this.trans ?_;simp [It.be_length]
 ·rw [Gt.it,if_neg (by omega),if_neg (by omega),if_pos rfl,if_pos (by omega)]
  have:valP 27 n=n:=by
   unfold valP;rw [if_neg (by omega),if_neg (by omega)];rcases hn with h | h
   ·rw [if_neg (by simp [h])]
   ·rw [h];split <;> rfl
  rw [this]
theorem ge_gm {x:It} {l:List UInt8} (h:GE x l):(∃ d,It.wf d x=true)→∃ c,GM False x l c:=by
 refine GE.rec (motive_1:=fun x l _=>(∃ d,It.wf d x=true)→∃ c,GM False x l c) (motive_2:=fun xs l _=>(∃ d,It.wfs d xs=true)→∃ c,ML False xs l c) ?_ ?_ ?_ ?_ ?_ ?_ ?_ ?_ ?_ ?_ ?_ ?_ h
 ·intro x m h h1 h2 h3 _;exact ⟨1,gm_num h1 h2 h3 False.elim⟩
 ·intro x m h h1 h2 h3 _;exact ⟨1,.str h1 h2 h3 False.elim⟩
 ·intro x m i h h' h1 h2 h3 h4 h5 h6 _;exact ⟨3,.cut h1 h2 h3 h4 h5 h6 id⟩
 ·intro x y h l h1 h2 h3 _ ih hw
  obtain ⟨d,hw⟩:=hw;have hy:∃ d,It.wf d y=true:=by
   obtain ⟨k,n,b,ks⟩:=x;obtain rfl:k=6:=h1;obtain rfl:ks=[y]:=h2;unfold It.wf at hw;simp [It.wfs] at hw;exact ⟨_,hw.2.2⟩
  obtain ⟨c,ih⟩:=ih hy;have hs:=sem_tag h1;rw [h2] at hs;exact ⟨1 + c,.box (m:=6) (by omega) h3 False.elim rfl (GMs.one ih) hs⟩
 ·intro x h1 h2 hw;exact ⟨1,gm_enc h1 hw⟩
 ·intro x h1 hw;exact ⟨1,gm_flt h1 id hw⟩
 ·intro x h l h1 h2 _ ih hw
  obtain ⟨d,hw⟩:=hw;obtain ⟨c,ih⟩:=ih (by
   obtain ⟨k,n,b,ks⟩:=x;obtain rfl:k=4:=h1;unfold It.wf at hw;simp at hw;exact ⟨_,hw.2.2⟩)
  exact ⟨1 + c,.box (m:=4) (by omega) h2 False.elim (by unfold cntP;rw [if_neg (by omega),if_neg (by omega)]) ih.gms (sem_arr h1 _)⟩
 ·intro x l h1 _ ih hw
  obtain ⟨d,hw⟩:=hw;obtain ⟨c,ih⟩:=ih (by
   obtain ⟨k,n,b,ks⟩:=x;obtain rfl:k=4:=h1;unfold It.wf at hw;simp at hw;exact ⟨_,hw.2.2⟩)
  exact ⟨1 + c,.boxO (m:=4) id (.inl rfl) ih.gms (sem_arr h1 _)⟩
 ·intro x f h l h1 h2 h3 _ ih hw
  obtain ⟨d,hw⟩:=hw;have hev:x.kids.length % 2=0∧It.wfs (d - 1) x.kids=true:=by
   obtain ⟨k,n,b,ks⟩:=x;obtain rfl:k=5:=h1;unfold It.wf at hw;simp at hw;exact ⟨hw.2.1.2.1,hw.2.2⟩
  obtain ⟨c,ih⟩:=ih ⟨d - 1,wfs_rot f hev.2⟩;exact ⟨1 + c,.box (m:=5) (by omega) h3 False.elim (by unfold cntP;rw [if_neg (by omega),if_pos rfl];simp;omega) ih.gms (sem_map h1 f _)⟩
 ·intro x f l h1 h2 _ ih hw
  obtain ⟨d,hw⟩:=hw;have hev:x.kids.length % 2=0∧It.wfs (d - 1) x.kids=true:=by
   obtain ⟨k,n,b,ks⟩:=x;obtain rfl:k=5:=h1;unfold It.wf at hw;simp at hw;exact ⟨hw.2.1.2.1,hw.2.2⟩
  obtain ⟨c,ih⟩:=ih ⟨d - 1,wfs_rot f hev.2⟩;exact ⟨1 + c,.boxO (m:=5) id (.inr ⟨rfl,by simp;omega⟩) ih.gms (sem_map h1 f _)⟩
 ·intro _;exact ⟨0,.nil⟩
 ·intro xs y l m _ _ ih1 ih2 hw
  obtain ⟨d,hw⟩:=hw;rw [wfs_app,Bool.and_eq_true] at hw;obtain ⟨c1,k1⟩:=ih1 ⟨d,hw.1⟩;obtain ⟨c2,k2⟩:=ih2 ⟨d,by have:=hw.2;simp [It.wfs] at this;exact this⟩;exact ⟨_,k1.snoc k2⟩
theorem means_read {x:It} {b:List UInt8} (hv:It.wf 8 x=true) (h:GE x b) (hb:b.length≤4096):(∃ e,readP b=.error e)∨∃ t i,readP b=.ok (t,b.length,i)∧t.bad b=false∧t.cn b=some x:=by
 obtain ⟨c,_,_,hc⟩:=ge_gm h ⟨8,hv⟩;have:=hc [] [] 600 0 0 (by omega) (by omega) (by omega) hv;unfold readP;rw [List.take_of_length_le hb];simp only [List.nil_append,List.append_nil,List.length_nil,Nat.zero_add] at this;rcases this with ⟨_,h⟩ | ⟨_,t,h1,h2,h3,_⟩
 ·exact .inl h
 ·exact .inr ⟨t,c,h1,h2,h3⟩
theorem means_cnP {x:It} {b:List UInt8} (hv:It.wf 8 x=true) (h:GE x b) (hb:b.length≤4096):(∃ e,readP b=.error e)∨(∃ t i,readP b=.ok (t,b.length,i))∧cnP b=.ok x:=by
 rcases means_read hv h hb with h | ⟨t,i,h1,h2,h3⟩
 ·exact .inl h
 ·refine .inr ⟨⟨t,i,h1⟩,?_⟩
  unfold cnP;rw [if_neg (by omega),h1];simp only;rw [if_neg (by omega),if_neg (by simp [h2]),h3]
end Go.Proofs.YtelefkkkccilaaaDoor
