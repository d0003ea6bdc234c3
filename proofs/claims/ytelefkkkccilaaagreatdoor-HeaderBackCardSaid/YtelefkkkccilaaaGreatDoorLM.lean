/- Bytes as strings, bytes.Equal and bytes.Clone. -/
import Derived.Test.YtelefkkkccilaaaGreatDoorXn
import Derived.Shelf.SlSortFuncK.WholeK
import Derived.Shelf.GgSortFunc.Tiny
set_option maxHeartbeats 8000000
set_option linter.all false
namespace Go.Proofs.YtelefkkkccilaaaGreatDoor
open Go.RowKit
set_option maxRecDepth 100000
theorem str_of {ok:Nat→Prop} {w:World} {a:Option Addr} {len:Nat} {l:List UInt8} (h:BR ok w a len l) (cap:Nat):(convert 23 9 (.slice a len cap)).run Tryz.prog w=.ok (.string ⟨l.toArray⟩) w:=by
 obtain ⟨h1,h2,h3⟩:=h;subst h1;cases l with
 | nil=>
   rw [run_convert_bytes_string w 23 9 5 a _ cap Tryz.underlying23 Tryz.underlying5 Tryz.underlying9];cases a with
   | none=>simp [Conv.bytesToString];rfl
   | some a=>
     rw [← run_convert_bytes_string w 23 9 5 _ _ cap Tryz.underlying23 Tryz.underlying5 Tryz.underlying9];exact run_convert_bytes_back w 23 9 5 a cap [] Tryz.underlying23 Tryz.underlying5 Tryz.underlying9 (fun j hj=>absurd hj (by simp))
 | cons x l=>
   obtain ⟨b,o,rfl,_⟩:=h3 0 (by simp);refine run_convert_bytes_back w 23 9 5 _ cap (x :: l) Tryz.underlying23 Tryz.underlying5 Tryz.underlying9 fun j hj=>?_
   obtain ⟨b',o',e1,_,e2⟩:=h3 j hj;simp only [Option.some.injEq,Addr.mk.injEq,and_true] at e1;obtain ⟨rfl,rfl⟩:=e1;have hadd:(⟨b,o,none⟩:Addr).add j=⟨b,o + j,none⟩:=by unfold Addr.add;split <;> simp_all
   rw [hadd,e2]
   try simp [List.getElem?_eq_getElem hj]
theorem equal_any {okA okB:Nat→Prop} {w:World} {a b:Option Addr} {n m c d:Nat} {x y:List UInt8} (hx:BR okA w a n x) (hy:BR okB w b m y):
 Calls Tryz.prog 112 #[.slice a n c,.slice b m d] w fun e w'=>e=.returned (.bool (x==y))∧w=w':=by
 have h1:=str_of hx c;have h2:=str_of hy d;clear hx hy;go_enter Tryz.func112,Tryz.ntmps112
 go_wp2_with fail
 go_ret
 exact ⟨rfl,rfl⟩
theorem clone_any {ok:Nat→Prop} {w:World} {a:Option Addr} {n c:Nat} {x:List UInt8} (hx:BR ok w a n x) (hl:x.length≤100000):
 Calls Tryz.prog 134 #[.slice a n c] w (FB x w):=by
 cases a with
 | none=>
   have hx0:x=[]:=by
    cases x with
    | nil=>rfl
    | cons u l=>obtain ⟨b,o,e,_⟩:=hx.2.2 0 (by simp);cases e
   subst hx0;have hnl:∀ W,(binOp .eql 23 (.slice none n c) (.slice none 0 0)).run Tryz.prog W=.ok (.bool true) W:=fun W=>Lib.run_eql_slice_nil W 23 5 _ _ _ 0 0 Tryz.underlying23
   clear hx hl;go_enter Tryz.func134,Tryz.ntmps134
   go_wp2_with fail
   go_ret
   exact ⟨_,rfl,OwnB.nil _ _,Below.refl _ _⟩
 | some ad=>
   have P0:=al w (.cells #[] 5);have N0:=aw w (.cells #[] 5);have hO:OwnB (w.alloc (.cells #[] 5)) w.heap.size (.slice (some ⟨w.heap.size,0,none⟩) 0 0) []:=own_lits [] w.heap.size (by simp) N0 _ (Nat.le_refl _);obtain ⟨v,W',hrun,hO2,hB2⟩:=app_step (c:=c) hO P0.size (Below.refl _ _) (hx.below P0) (by simp;omega);have HR:=dh hrun;have HB:=dh (P0.trans hB2);have HO:=dh hO2;have hnl:∀ W,(binOp .eql 23 (.slice (some ad) n c) (.slice none 0 0)).run Tryz.prog W=.ok (.bool false) W:=fun W=>Lib.run_eql_slice_nil W 23 5 _ _ _ 0 0 Tryz.underlying23
   clear P0 N0 hO hrun hO2 hB2 hx;go_enter Tryz.func134,Tryz.ntmps134
   go_wp2_with (at_builtin;refine wj rfl _ _ 23 rfl rfl rfl HR.out ?_;clear HR)
   go_ret
   exact ⟨v,rfl,by simpa using HO.out,HB.out⟩
structure ML (W:World) (g n:Nat) (Q:Nat→Prop) (es:List (It × Ad)):Prop where
 row:∃ cs:Array Value,W.heap[g]?=some (.cells cs 26 (0,0))∧cs.size=n * 4∧∀ (i:Nat) (u:Value),(es.flatMap cells4)[i]?=some u→cs[i]?=some u
 each:∀ e ∈ es,IR (fun b=>Q b∧b≠g) W e.1 e.2
theorem ML.start {w:World} {n:Nat} {Q:Nat→Prop} {z:Array Value}:ML (w.alloc (.cells (madeCells z (n * 4)) 26)) w.heap.size n Q []:=
 ⟨⟨_,aw _ _,size_madeCells _ _,fun i u h=>by simp at h⟩,fun e h=>by simp at h⟩
theorem ML.keep {W W':World} {g n:Nat} {Q:Nat→Prop} {es:List (It × Ad)} (h:ML W g n Q es) (hg:W'.heap[g]?=W.heap[g]?) (hk:∀ b,Q b→b≠g→b < W.heap.size→W'.heap[b]?=W.heap[b]?):ML W' g n Q es:=by
 obtain ⟨cs,h1,h2,h3⟩:=h.row;exact ⟨⟨cs,hg.trans h1,h2,h3⟩,fun e he=>(h.each e he).keep fun b hb hl=>⟨hk b hb.1 hb.2 hl,hb⟩⟩
theorem ML.lt {W:World} {g n:Nat} {Q:Nat→Prop} {es:List (It × Ad)} (h:ML W g n Q es):g < W.heap.size:=by
 obtain ⟨cs,h1,_⟩:=h.row;exact lb h1
theorem ML.pure {W W':World} {g n:Nat} {Q:Nat→Prop} {es:List (It × Ad)} (h:ML W g n Q es) (hB:Below W.heap.size W W'):ML W' g n Q es:=
 h.keep (hB.block g h.lt) fun b _ _ hl=>hB.block b hl
theorem ML.spot {W:World} {g n:Nat} {Q:Nat→Prop} {es:List (It × Ad)} (h:ML W g n Q es) {j:Nat} (hj:j < n):(∃ v0 v1 v2 v3,W.cell? ⟨g,j * 4,none⟩=some v0∧W.cell? ⟨g,j * 4 + 1,none⟩=some v1∧W.cell? ⟨g,j * 4 + 2,none⟩=some v2∧W.cell? ⟨g,j * 4 + 3,none⟩=some v3)∧W.frozen? ⟨g,j * 4,none⟩=false∧W.frozen? ⟨g,j * 4 + 1,none⟩=false∧W.frozen? ⟨g,j * 4 + 2,none⟩=false∧W.frozen? ⟨g,j * 4 + 3,none⟩=false:=by
 obtain ⟨cs,h1,h2,_⟩:=h.row;refine ⟨⟨cs[j * 4]'(by omega),cs[j * 4 + 1]'(by omega),cs[j * 4 + 2]'(by omega),cs[j * 4 + 3]'(by omega),?_,?_,?_,?_⟩,?_,?_,?_,?_⟩
 ·rw [cr h1];exact Array.getElem?_eq_getElem _
 ·rw [cr h1];exact Array.getElem?_eq_getElem _
 ·rw [cr h1];exact Array.getElem?_eq_getElem _
 ·rw [cr h1];exact Array.getElem?_eq_getElem _
 all_goals simp [World.frozen?,h1]
theorem ML.put {W:World} {g n:Nat} {Q:Nat→Prop} {es:List (It × Ad)} (h:ML W g n Q es) {y:It} {A:Ad} (hj:es.length < n) (hI:IR (fun b=>Q b∧b≠g) W y A):
 ML ((((W.setCell ⟨g,es.length * 4,none⟩ (.int .i64 y.kind)).setCell ⟨g,es.length * 4 + 1,none⟩ (.int .u64 (y.num:Int))).setCell ⟨g,es.length * 4 + 2,none⟩ (.slice A.ab A.nb A.cb)).setCell ⟨g,es.length * 4 + 3,none⟩ (.slice A.ai A.ni A.ci)) g n Q (es ++ [(y,A)]):=by
 obtain ⟨cs,h1,h2,h3⟩:=h.row;have s0:=sar h1 (es.length * 4) (.int .i64 y.kind);have s1:=sar s0 (es.length * 4 + 1) (.int .u64 (y.num:Int));have s2:=sar s1 (es.length * 4 + 2) (.slice A.ab A.nb A.cb);have s3:=sar s2 (es.length * 4 + 3) (.slice A.ai A.ni A.ci);refine ⟨⟨_,s3,by simpa using h2,fun i u hu=>?_⟩,fun e he=>?_⟩
 ·rw [flat4_append] at hu
  have hl:=flat4_len es;by_cases hi:i < es.length * 4
  ·rw [List.getElem?_append_left (by omega)] at hu
   have:=h3 i u hu;simp only [Array.getElem?_setIfInBounds];rw [if_neg (by omega),if_neg (by omega),if_neg (by omega),if_neg (by omega)];exact this
  ·rw [List.getElem?_append_right (by omega),hl] at hu
   have h4:i - es.length * 4 < 4:=by
    rcases Nat.lt_or_ge (i - es.length * 4) 4 with h | h
    ·exact h
    ·rw [List.getElem?_eq_none (by simpa [cells4] using h)] at hu;cases hu
   simp only [Array.getElem?_setIfInBounds,Array.size_setIfInBounds];rcases (show i=es.length * 4∨i=es.length * 4 + 1∨i=es.length * 4 + 2∨i=es.length * 4 + 3 by omega) with e | e | e | e
   ·subst e
    rw [show es.length * 4 - es.length * 4=0 from by omega] at hu;simp [cells4] at hu;rw [if_neg (by omega),if_neg (by omega),if_neg (by omega),if_pos rfl,if_pos (by omega),← hu]
   ·subst e
    rw [show es.length * 4 + 1 - es.length * 4=1 from by omega] at hu;simp [cells4] at hu;rw [if_neg (by omega),if_neg (by omega),if_pos rfl,if_pos (by omega),← hu]
   ·subst e
    rw [show es.length * 4 + 2 - es.length * 4=2 from by omega] at hu;simp [cells4] at hu;rw [if_neg (by omega),if_pos rfl,if_pos (by omega),← hu]
   ·subst e
    rw [show es.length * 4 + 3 - es.length * 4=3 from by omega] at hu;simp [cells4] at hu;rw [if_pos rfl,if_pos (by omega),← hu]
 ·have hk:∀ b,b≠g→((((W.setCell ⟨g,es.length * 4,none⟩ (.int .i64 y.kind)).setCell ⟨g,es.length * 4 + 1,none⟩ (.int .u64 (y.num:Int))).setCell ⟨g,es.length * 4 + 2,none⟩ (.slice A.ab A.nb A.cb)).setCell ⟨g,es.length * 4 + 3,none⟩ (.slice A.ai A.ni A.ci)).heap[b]?=W.heap[b]?:=fun b hb=>by
   rw [Below.heap_setCell _ _ _ _ hb,Below.heap_setCell _ _ _ _ hb,Below.heap_setCell _ _ _ _ hb,Below.heap_setCell _ _ _ _ hb]
  rcases List.mem_append.1 he with he | he
  ·exact (h.each e he).keep fun b hb _=>⟨hk b hb.2,hb⟩
  ·simp only [List.mem_singleton] at he
   subst he;exact hI.keep fun b hb _=>⟨hk b hb.2,hb⟩
theorem ML.tl {W:World} {g n:Nat} {Q:Nat→Prop} {es:List (It × Ad)} (h:ML W g n Q es) (hn:es.length=n) (hsz:n≤1000000):TL (fun b=>b=g∨Q b) W (es.map (·.1)) (some ⟨g,0,none⟩) n:=by
 obtain ⟨cs,h1,h2,h3⟩:=h.row;refine ⟨by simp [hn],by omega,fun j hj=>?_⟩;have hj':j < es.length:=by simpa using hj
 have hc:∀ k u,(es.flatMap cells4)[k]?=some u→W.cell? ⟨g,0 + k,none⟩=some u:=fun k u hu=>by
  rw [Nat.zero_add,cr h1];exact h3 k u hu
 have g0:=flat4_get es j hj' 0 (by omega);have g1:=flat4_get es j hj' 1 (by omega);have g2:=flat4_get es j hj' 2 (by omega);have g3:=flat4_get es j hj' 3 (by omega);simp only [cells4,List.getElem?_cons_zero,List.getElem?_cons_succ] at g0 g1 g2 g3;refine ⟨g,0,es[j].2,rfl,.inl rfl,?_,?_⟩
 ·rw [List.getElem_map]
  exact ⟨by have:=hc _ _ g0;simpa using this,by have:=hc _ _ g1;simpa [Nat.add_assoc] using this,by have:=hc _ _ g2;simpa [Nat.add_assoc] using this,by have:=hc _ _ g3;simpa [Nat.add_assoc] using this⟩
 ·rw [List.getElem_map]
  exact (h.each _ (List.getElem_mem hj')).imp fun b hb _=>.inr hb.1
def CpdC (m:Nat):Prop:=∀ (x:It) (A:Ad) (w:World) (ok:Nat→Prop),It.nodes x≤m→m≤100000→It.st x=true→IR ok w x A→Calls Tryz.prog 113 #[.agg #[.int .i64 x.kind,.int .u64 (x.num:Int),.slice A.ab A.nb A.cb,.slice A.ai A.ni A.ci]] w (IP x w)
def CR (w:World) (k N:Int) (bs:List UInt8) (ks:List It) (a2 ai:Option Addr) (c2 ni ci g B:Nat) (i:Value) (W:World):Prop:=∃ (j:Nat) (es:List (It × Ad)),i=.int .i64 (j:Int)∧j≤ni∧es.map (·.1)=ks.take j∧ML W g ni (fun b=>B + 2≤b∧(Value.slice a2 bs.length c2).ownBlock≠some b) es∧W.heap[B]?=some (.cells #[.int .i64 k,.int .u64 N,.slice a2 bs.length c2,.slice ai ni ci] 26 (0,0))∧W.heap[B + 1]?=some (.cells #[.int .i64 0,.int .u64 0,.slice none 0 0,.slice none 0 0] 26 (0,0))∧OwnB W (B + 2) (.slice a2 bs.length c2) bs∧Below B w W
def IPC (x:It) (w:World) (e:Ending) (w':World):Prop:=∃ A:Ad,e=.returned (.agg #[.int .i64 x.kind,.int .u64 (x.num:Int),.slice A.ab A.nb A.cb,.slice A.ai A.ni A.ci])∧IR (fun b=>w.heap.size≤b) w' x A∧Below w.heap.size w w'∧A.ci=A.ni
theorem IPC.ip {x:It} {w:World} {e:Ending} {w':World} (h:IPC x w e w'):IP x w e w':=by
 obtain ⟨A,h1,h2,h3,_⟩:=h;exact ⟨A,h1,h2,h3⟩
theorem cpc_one (k N:Int) (bs:List UInt8) (ks:List It) (ab ai:Option Addr) (nb cb ni ci:Nat) (w:World) (ok:Nat→Prop) (n:Nat) (hN:N=n) (hn:n < 18446744073709551616) (hR:BR ok w ab nb bs) (hT:TL ok w ks ai ni) (hl:bs.length≤4096) (hk:ks.length≤100000)
 (hkid:∀ (j:Nat) (h:j < ks.length) (A:Ad) (W:World),IR ok W ks[j] A→Calls Tryz.prog 113 #[.agg #[.int .i64 ks[j].kind,.int .u64 (ks[j].num:Int),.slice A.ab A.nb A.cb,.slice A.ai A.ni A.ci]] W (IP ks[j] W)):
 Calls Tryz.prog 113 #[.agg #[.int .i64 k,.int .u64 N,.slice ab nb cb,.slice ai ni ci]] w (IPC (.mk k n bs ks) w):=by
 obtain ⟨P0,N0⟩:=an w (oc k N ab nb cb ai ni ci);obtain ⟨P1,N1⟩:=an (w.alloc (oc k N ab nb cb ai ni ci)) o4z;have hsz1:((w.alloc (oc k N ab nb cb ai ni ci)).alloc o4z).heap.size=w.heap.size + 2:=by simp
 have hsz0:(w.alloc (oc k N ab nb cb ai ni ci)).heap.size=w.heap.size + 1:=by simp
 rw [hsz0] at N1;have HB0:=dh (bkp P1 N0 (lb N0));have HR1:=dh N1;have HP1:=dh (pt P0 P1);have HC:=dh (clone_any (c:=cb) (hR.below (pt P0 P1)) (by omega));have HTL:=dh hT;have HNI:Hid (ni=ks.length):=dh hT.1;have HKID:=dh hkid;have HN:=dh (And.intro hN hn);have HS1:=dh hsz1;have hni:ni≤100000:=by have:=HNI.out;omega
 have hmk:∀ u:World,(Instr.makeSlice 24 (.int .i64 (ni:Int)) (.int .i64 (ni:Int))).run Tryz.prog u=.ok (.slice (some ⟨u.heap.size,0,none⟩) ni ni) (u.alloc (.cells (madeCells #[.int .i64 0,.int .u64 0,.slice none 0 0,.slice none 0 0] (ni * 4)) 26)):=fun u=>by
  obtain ⟨i,hi,z1,z2,z3⟩:=info_parts inf26;have:=run_makeSlice (P:=Tryz.prog) u 24 26 i _ Tryz.underlying24 hi z1 .i64 .i64 ni ni (by omega) (Int.le_refl _) (by rw [z2];omega) (by rw [z3];omega) (by omega);simpa [z2,Value.cells] using this
 have HMK:=dh hmk;have x:=cf HB0.out;have f:=ff HB0.out;clear hR hT hkid hN hn N0 N1 P0 P1 hsz1 hsz0 hmk;go_enter Tryz.func113,Tryz.ntmps113
 go_upto_region 1 with fail
 generalize (w.alloc (oc k N ab nb cb ai ni ci)).alloc o4z=w1 at *;generalize hB:w.heap.size=B at *;go_wp2_with fail
 refine HC.out.mono ?_;rintro e w2 h2;obtain ⟨a2,c2,rfl,O2,R2,hc2,hc2m,B2⟩:=h2.open;have HO2:=dh O2;have HB2:=dh B2;have HC2:=dh (And.intro hc2 hc2m);have HBx:=kp B2 HB0;have HRx:=kp B2 HR1;clear O2 R2 hc2 hc2m B2 h2 x f;have x:=cf HBx.out;have f:=ff HBx.out;go_upto_region 2 with fail
 have s3:=sar HBx.out 2 (.slice a2 bs.length c2);have HBy:=dh (show (w2.setCell ⟨B,2,none⟩ (.slice a2 bs.length c2)).heap[B]?=some (oc k N a2 bs.length c2 ai ni ci) by rw [s3];simp);have HRy:=dh ((Below.heap_setCell w2 ⟨B,2,none⟩ (.slice a2 bs.length c2) (B + 1) (by show B + 1≠B;omega)).trans HRx.out);have hs1:=HS1.out;have HOy:=dh (show OwnB (w2.setCell ⟨B,2,none⟩ (.slice a2 bs.length c2)) (B + 2) (.slice a2 bs.length c2) bs from own_keep (HO2.out.lower (by omega)) fun q hq=>Below.heap_setCell _ _ _ _ (by show q≠B;have:=olt HO2.out hq;omega));have HBelY:=dh (Below.setCell (p:=⟨B,2,none⟩) (HP1.out.trans (HB2.out.mono (by omega))) (Nat.le_refl B) (.slice a2 bs.length c2));clear s3 x f;generalize w2.setCell ⟨B,2,none⟩ (.slice a2 bs.length c2)=w3 at *;have x:=cf HBy.out;have hmk:=HMK.out;have P4:=al w3 (.cells (madeCells #[.int .i64 0,.int .u64 0,.slice none 0 0,.slice none 0 0] (ni * 4)) 26);have M4:=ML.start (w:=w3) (n:=ni) (Q:=fun b=>B + 2≤b∧(Value.slice a2 bs.length c2).ownBlock≠some b) (z:=#[.int .i64 0,.int .u64 0,.slice none 0 0,.slice none 0 0]);have HCR:Hid (CR w k N bs ks a2 ai c2 ni ci w3.heap.size B (.int .i64 0) (w3.alloc (.cells (madeCells #[.int .i64 0,.int .u64 0,.slice none 0 0,.slice none 0 0] (ni * 4)) 26))):=dh ⟨0,[],rfl,by omega,by simp,M4,bkp P4 HBy.out (lb HBy.out),bkp P4 HRy.out (lb HRy.out),HOy.out.pure P4,HBelY.out.trans (P4.mono (by have:=HBelY.out.size;omega))⟩;have HG:Hid (B + 2≤w3.heap.size∧(Value.slice a2 bs.length c2).ownBlock≠some w3.heap.size):=dh ⟨by have:=lb HRy.out;omega,fun e=>by have:=olt HOy.out e;omega⟩;have HBz:=kp P4 HBy;clear P4 M4;go_upto_region 3 with fail
 generalize w3.alloc (.cells (madeCells #[.int .i64 0,.int .u64 0,.slice none 0 0,.slice none 0 0] (ni * 4)) 26)=w4 at *;generalize w3.heap.size=g at *;clear x hmk;have x:=cf HBz.out;go_wp2_with fail
 clear x;go_loopw [17] (fun i W=>CR w k N bs ks a2 ai c2 ni ci g B i W) (fun i _=>ni - (intOf i).toNat)
 case atStart=>exact HCR.out
 case round=>
  obtain ⟨j,es,rfl,hj,hes,hM,hbx,hrx,hO,hBl⟩:=hrel;have hej:es.length=j:=by have:=congrArg List.length hes;simp at this;have:=HNI.out;omega
  by_cases hjn:j < ni
  ·have hjk:j < ks.length:=by have:=HNI.out;omega
   obtain ⟨b',o',A',rfl,hb',⟨c0,c1,c2x,c3⟩,hI'⟩:=(HTL.out.below (hB ▸ hBl)).2.2 j hjk;have PA:=al wr (.cells #[.int .i64 ks[j].kind,.int .u64 (ks[j].num:Int),.slice A'.ab A'.nb A'.cb,.slice A'.ai A'.ni A'.ci] 26);have HCC:=dh (HKID.out j hjk A' (wr.alloc (.cells #[.int .i64 ks[j].kind,.int .u64 (ks[j].num:Int),.slice A'.ab A'.nb A'.cb,.slice A'.ai A'.ni A'.ci] 26)) (hI'.below PA));have HTK:Hid ((es.map (·.1)) ++ [ks[j]]=ks.take (j + 1)):=dh (by rw [hes,List.take_succ_eq_append_getElem hjk]);have HPA:=dh PA;have HM:=dh hM;have HBX:=dh hbx;have HRX:=dh hrx;have HOX:=dh hO;have HBL:=dh hBl;have HEJ:=dh hej;have hlt:(j:Int) < (ni:Int):=by omega
   clear hM hbx hrx hO hBl hI' PA hes hej;generalize ks[j]=y at *;go_wp2_with fail
   refine HCC.out.mono ?_;rintro e w6 ⟨A6,rfl,hI6,hB6⟩;have hbl:=pt HPA.out hB6;have hm6:=HM.out.pure hbl;obtain ⟨⟨v0,v1,v2,v3,s0,s1,s2,s3⟩,t0,t1,t2,t3⟩:=hm6.spot hjn;have hgw:=HG.out;have hMw:=HM.out.lt;have hm7:=hm6.put (y:=y) (A:=A6) (by have:=HEJ.out;omega) (hI6.imp fun b hb _=>⟨⟨by have:=HPA.out.size;omega,fun e=>by have:=olt HOX.out e;have:=HPA.out.size;omega⟩,by have:=HPA.out.size;omega⟩);rw [HEJ.out] at hm7;have HM7:=dh hm7;have hkk:∀ q,q≠g→(((((w6).setCell ⟨g,j * 4,none⟩ (.int .i64 y.kind)).setCell ⟨g,j * 4 + 1,none⟩ (.int .u64 (y.num:Int))).setCell ⟨g,j * 4 + 2,none⟩ (.slice A6.ab A6.nb A6.cb)).setCell ⟨g,j * 4 + 3,none⟩ (.slice A6.ai A6.ni A6.ci)).heap[q]?=w6.heap[q]?:=fun q hq=>by
    rw [Below.heap_setCell _ _ _ _ hq,Below.heap_setCell _ _ _ _ hq,Below.heap_setCell _ _ _ _ hq,Below.heap_setCell _ _ _ _ hq]
   have HB7:=dh ((hkk B (by omega)).trans (bkp hbl HBX.out (lb HBX.out)));have HR7:=dh ((hkk (B + 1) (by omega)).trans (bkp hbl HRX.out (lb HRX.out)));have HO7:=dh (own_keep (HOX.out.pure hbl) fun q hq=>hkk q (fun e=>hgw.2 (e ▸ hq)));have HBl7:=dh ((((((HBL.out.trans (hbl.mono (by have:=HBL.out.size;omega))).setCell (p:=⟨g,j * 4,none⟩) (by show B≤g;omega) (.int .i64 y.kind)).setCell (p:=⟨g,j * 4 + 1,none⟩) (by show B≤g;omega) (.int .u64 (y.num:Int))).setCell (p:=⟨g,j * 4 + 2,none⟩) (by show B≤g;omega) (.slice A6.ab A6.nb A6.cb)).setCell (p:=⟨g,j * 4 + 3,none⟩) (by show B≤g;omega) (.slice A6.ai A6.ni A6.ci)));clear hbl hm6 hm7 hI6 hB6 hkk hMw c0 c1 c2x c3;go_wp2_with fail
   clear s0 s1 s2 s3 t0 t1 t2 t3
   go_roundw
   case rel=>exact ⟨j + 1,es ++ [(y,A6)],by go_num,by omega,by rw [List.map_append];exact HTK.out,HM7.out,HB7.out,HR7.out,HO7.out,HBl7.out⟩
   case measure=>simp [intOf];omega
  ·obtain rfl:j=ni:=by omega
   rw [List.take_of_length_le (by have:=HNI.out;omega)] at hes;have HBL:=dh hBl;have HOX:=dh hO;have x:=cf hbx;have f:=ff hbx;have r:=cf hrx;obtain ⟨q0,q1,q2,q3⟩:=ff hrx;by_cases hz:j=0
   ·have hks0:ks=[]:=List.eq_nil_of_length_eq_zero (by have:=HNI.out;omega)
    subst hz;have h1x:∀ q,q≠B→((wr.setCell ⟨B,3,none⟩ (.slice (some ⟨g,0,none⟩) 0 0)).setCell ⟨B,3,none⟩ (.slice none 0 0)).heap[q]?=wr.heap[q]?:=fun q h1=>((Below.heap_setCell _ _ _ _ h1).trans (Below.heap_setCell _ _ _ _ h1))
    have hrR:=(h1x (B + 1) (by omega)).trans hrx;have hbelW:Below B w ((wr.setCell ⟨B,3,none⟩ (.slice (some ⟨g,0,none⟩) 0 0)).setCell ⟨B,3,none⟩ (.slice none 0 0)):=((HBL.out.setCell (p:=⟨B,3,none⟩) (Nat.le_refl B) _).setCell (p:=⟨B,3,none⟩) (Nat.le_refl B) _);go_wp2_with fail
    clear x f r q0 q1 q2 q3;obtain ⟨W',hW',hp4,hs4,hb4⟩:=pq (W:=((wr.setCell ⟨B,3,none⟩ (.slice (some ⟨g,0,none⟩) 0 0)).setCell ⟨B,3,none⟩ (.slice none 0 0))) (b:=B + 1) (hrR) (.int .i64 k) (.int .u64 N) (.slice a2 bs.length c2) (.slice none 0 0);rw [hW'];clear hW';obtain ⟨g0,g1,g2,g3⟩:=cf hp4;refine bodyPost_ret (v:=.agg #[.int .i64 k,.int .u64 N,.slice a2 bs.length c2,.slice none 0 0]) (by simp [results,Tryz.results113,go_sem,g0,g1,g2,g3]) rfl ?_;have hW':=hb4 B w hbelW (by omega);have hkeep:∀ q,q≠B→q≠B + 1→W'.heap[q]?=wr.heap[q]?:=fun q e1 e2=>(hs4.2 q e2).trans (h1x q e1)
    obtain ⟨a9,c9,e9,hbr,hb2,hb3⟩:=hO.br;simp only [Value.slice.injEq] at e9;obtain ⟨rfl,_,rfl⟩:=e9;refine ⟨⟨a2,bs.length,c2,none,0,0⟩,by simp only [It.kind,It.num];rw [HN.out.1],?_,by rw [hB];exact hW',rfl⟩;have hir:IR (fun q=>B + 2≤q) wr (.mk k n bs ks) ⟨a2,bs.length,c2,none,0,0⟩:=IR_iff.2 ⟨HN.out.2,⟨hbr,hb2,hb3⟩,(by show TL _ wr ks _ _;rw [hks0];exact TL.nil _ _ _),by simp,by simp⟩;rw [hB];exact hir.keep fun q hq _=>⟨hkeep q (by omega) (by omega),by omega⟩
   ·have hzb:((j:Int)==0)=false:=by simpa using hz
    have hzn:¬ (j:Int)=0:=by omega
    have h1x:∀ q,q≠B→(wr.setCell ⟨B,3,none⟩ (.slice (some ⟨g,0,none⟩) j j)).heap[q]?=wr.heap[q]?:=fun q h1=>(Below.heap_setCell _ _ _ _ h1)
    have hrR:=(h1x (B + 1) (by omega)).trans hrx;have hbelW:Below B w (wr.setCell ⟨B,3,none⟩ (.slice (some ⟨g,0,none⟩) j j)):=(HBL.out.setCell (p:=⟨B,3,none⟩) (Nat.le_refl B) _);go_wp2_with fail
    clear x f r q0 q1 q2 q3;obtain ⟨W',hW',hp4,hs4,hb4⟩:=pq (W:=(wr.setCell ⟨B,3,none⟩ (.slice (some ⟨g,0,none⟩) j j))) (b:=B + 1) (hrR) (.int .i64 k) (.int .u64 N) (.slice a2 bs.length c2) (.slice (some ⟨g,0,none⟩) j j);rw [hW'];clear hW';obtain ⟨g0,g1,g2,g3⟩:=cf hp4;refine bodyPost_ret (v:=.agg #[.int .i64 k,.int .u64 N,.slice a2 bs.length c2,.slice (some ⟨g,0,none⟩) j j]) (by simp [results,Tryz.results113,go_sem,g0,g1,g2,g3]) rfl ?_;have hW':=hb4 B w hbelW (by omega);have hkeep:∀ q,q≠B→q≠B + 1→W'.heap[q]?=wr.heap[q]?:=fun q e1 e2=>(hs4.2 q e2).trans (h1x q e1)
    obtain ⟨a9,c9,e9,hbr,hb2,hb3⟩:=hO.br;simp only [Value.slice.injEq] at e9;obtain ⟨rfl,_,rfl⟩:=e9;refine ⟨⟨a2,bs.length,c2,some ⟨g,0,none⟩,j,j⟩,by simp only [It.kind,It.num];rw [HN.out.1],?_,by rw [hB];exact hW',rfl⟩;have hir:IR (fun q=>B + 2≤q) wr (.mk k n bs ks) ⟨a2,bs.length,c2,some ⟨g,0,none⟩,j,j⟩:=IR_iff.2 ⟨HN.out.2,⟨hbr,hb2,hb3⟩,(by show TL _ wr ks _ _;rw [← hes];exact (hM.tl hej (by omega)).imp fun q hq _=>(by rcases hq with h | h;have:=HG.out;omega;exact h.1)),Nat.le_refl _,(by show j≤_;omega)⟩
    rw [hB];exact hir.keep fun q hq _=>⟨hkeep q (by omega) (by omega),by omega⟩
theorem cpc_any:∀ (m:Nat) (x:It) (A:Ad) (w:World) (ok:Nat→Prop),It.nodes x≤m→m≤100000→It.st x=true→IR ok w x A→Calls Tryz.prog 113 #[.agg #[.int .i64 x.kind,.int .u64 (x.num:Int),.slice A.ab A.nb A.cb,.slice A.ai A.ni A.ci]] w (IPC x w)
 | 0=>fun x A w ok hm _ _ _=>by have:=It.nodes_pos x;omega
 | m + 1=>fun x A w ok hm hM hs hI=>by
   have hnum:=hI.num;have hbr:=hI.br;have htl:=hI.tl;cases x with
   | mk k n b ks=>
     simp only [It.kind,It.num,It.bytes,It.kids] at *;unfold It.st at hs;simp only [Bool.and_eq_true,decide_eq_true_eq] at hs;have hnn:It.nodes (.mk k n b ks)=1 + It.nodesL ks:=rfl;have hkl:=It.length_le_nodesL ks;exact cpc_one k n b ks _ _ _ _ _ _ w ok n rfl hnum hbr htl hs.1 (by omega) fun j hj A' W hI'=>(cpc_any m ks[j] A' W ok (by have:=nodes_get hj;omega) (by omega) (sts_get hs.2 hj) hI').mono fun _ _ h=>h.ip
theorem cpd_any (m:Nat):CpdC m:=fun x A w ok hm hM hs hI=>(cpc_any m x A w ok hm hM hs hI).mono fun _ _ h=>h.ip
end Go.Proofs.YtelefkkkccilaaaGreatDoor
namespace Go.Proofs.YtelefkkkccilaaaGreatDoor
open Go.RowKit Go.Shelf
def tryzSort_ren:Go.Shelf.Ren:=⟨fun | 6=>109 | 10=>143 | 11=>144 | 12=>145 | 13=>146 | 14=>147 | 24=>174 | 25=>175 | 26=>176 | 27=>177 | 28=>178 | 29=>179 | 30=>180 | 31=>181 | 32=>182 | 33=>183 | 34=>201 | 35=>202 | 36=>203 | 37=>204 | 38=>205 | 39=>213 | n=>n,fun | 20=>20 | 26=>133 | 35=>172 | 0=>0 | 37=>174 | 3=>3 | 41=>118 | 44=>180 | 49=>202 | 51=>22 | 4=>4 | 54=>216 | 53=>215 | 58=>220 | 5=>5 | 9=>9 | 60=>235 | 64=>238 | 66=>243 | 67=>244 | 17=>17 | 32=>169 | 33=>170 | 82=>266 | 12=>12 | 75=>259 | 76=>260 | 77=>261 | 78=>262 | 79=>263 | 80=>264 | n=>n,fun | n=>n⟩
theorem tryzSort:Go.Proofs.LaysGg.n6 Tryz.prog tryzSort_ren:={
 mixed:=by kernel_rfl
 f6:=Tryz.func109.trans (congrArg some (by kernel_rfl))
 f10:=Tryz.func143.trans (congrArg some (by kernel_rfl))
 f11:=Tryz.func144.trans (congrArg some (by kernel_rfl))
 f12:=Tryz.func145.trans (congrArg some (by kernel_rfl))
 f13:=Tryz.func146.trans (congrArg some (by kernel_rfl))
 f14:=Tryz.func147.trans (congrArg some (by kernel_rfl))
 f24:=Tryz.func174.trans (congrArg some (by kernel_rfl))
 f25:=Tryz.func175.trans (congrArg some (by kernel_rfl))
 f26:=Tryz.func176.trans (congrArg some (by kernel_rfl))
 f27:=Tryz.func177.trans (congrArg some (by kernel_rfl))
 f28:=Tryz.func178.trans (congrArg some (by kernel_rfl))
 f29:=Tryz.func179.trans (congrArg some (by kernel_rfl))
 f30:=Tryz.func180.trans (congrArg some (by kernel_rfl))
 f31:=Tryz.func181.trans (congrArg some (by kernel_rfl))
 f32:=Tryz.func182.trans (congrArg some (by kernel_rfl))
 f33:=Tryz.func183.trans (congrArg some (by kernel_rfl))
 f34:=Tryz.func201.trans (congrArg some (by kernel_rfl))
 f35:=Tryz.func202.trans (congrArg some (by kernel_rfl))
 f36:=Tryz.func203.trans (congrArg some (by kernel_rfl))
 f37:=Tryz.func204.trans (congrArg some (by kernel_rfl))
 f38:=Tryz.func205.trans (congrArg some (by kernel_rfl))
 f39:=Tryz.func213.trans (congrArg some (by kernel_rfl))
 t0:=Tryz.underlying0
 a0:=Tryz.isAgg0
 z0:=Tryz.sizeOf0
 v0:=Tryz.zeroValue0
 i0:=by kernel_rfl
 t3:=Tryz.underlying3
 a3:=Tryz.isAgg3
 z3:=Tryz.sizeOf3
 v3:=Tryz.zeroValue3
 i3:=by kernel_rfl
 t4:=Tryz.underlying4
 a4:=Tryz.isAgg4
 z4:=Tryz.sizeOf4
 v4:=Tryz.zeroValue4
 i4:=by kernel_rfl
 t5:=Tryz.underlying5
 a5:=Tryz.isAgg5
 z5:=Tryz.sizeOf5
 v5:=Tryz.zeroValue5
 i5:=by kernel_rfl
 t9:=Tryz.underlying9
 a9:=Tryz.isAgg9
 z9:=Tryz.sizeOf9
 v9:=Tryz.zeroValue9
 i9:=by kernel_rfl
 t12:=Tryz.underlying12
 a12:=Tryz.isAgg12
 z12:=Tryz.sizeOf12
 v12:=Tryz.zeroValue12
 i12:=by kernel_rfl
 t17:=Tryz.underlying17
 a17:=Tryz.isAgg17
 z17:=Tryz.sizeOf17
 v17:=Tryz.zeroValue17
 i17:=by kernel_rfl
 t20:=Tryz.underlying20
 a20:=Tryz.isAgg20
 z20:=Tryz.sizeOf20
 v20:=Tryz.zeroValue20
 i20:=by kernel_rfl
 t26:=Tryz.underlying133
 a26:=Tryz.isAgg133
 z26:=Tryz.sizeOf133
 v26:=Tryz.zeroValue133
 i26:=by kernel_rfl
 t32:=Tryz.underlying169
 a32:=Tryz.isAgg169
 z32:=Tryz.sizeOf169
 v32:=Tryz.zeroValue169
 i32:=by kernel_rfl
 t33:=Tryz.underlying170
 a33:=Tryz.isAgg170
 z33:=Tryz.sizeOf170
 v33:=Tryz.zeroValue170
 i33:=by kernel_rfl
 t35:=Tryz.underlying172
 a35:=Tryz.isAgg172
 z35:=Tryz.sizeOf172
 v35:=Tryz.zeroValue172
 i35:=by kernel_rfl
 t37:=Tryz.underlying174
 a37:=Tryz.isAgg174
 z37:=Tryz.sizeOf174
 v37:=Tryz.zeroValue174
 i37:=by kernel_rfl
 t41:=Tryz.underlying118
 a41:=Tryz.isAgg118
 z41:=Tryz.sizeOf118
 v41:=Tryz.zeroValue118
 i41:=by kernel_rfl
 t44:=Tryz.underlying180
 a44:=Tryz.isAgg180
 z44:=Tryz.sizeOf180
 v44:=Tryz.zeroValue180
 i44:=by kernel_rfl
 t49:=Tryz.underlying202
 a49:=Tryz.isAgg202
 z49:=Tryz.sizeOf202
 v49:=Tryz.zeroValue202
 i49:=by kernel_rfl
 t51:=Tryz.underlying22
 a51:=Tryz.isAgg22
 z51:=Tryz.sizeOf22
 v51:=Tryz.zeroValue22
 i51:=by kernel_rfl
 t53:=Tryz.underlying215
 a53:=Tryz.isAgg215
 z53:=Tryz.sizeOf215
 v53:=Tryz.zeroValue215
 i53:=by kernel_rfl
 t54:=Tryz.underlying216
 a54:=Tryz.isAgg216
 z54:=Tryz.sizeOf216
 v54:=Tryz.zeroValue216
 i54:=by kernel_rfl
 t58:=Tryz.underlying220
 a58:=Tryz.isAgg220
 z58:=Tryz.sizeOf220
 v58:=Tryz.zeroValue220
 i58:=by kernel_rfl
 t60:=Tryz.underlying235
 a60:=Tryz.isAgg235
 z60:=Tryz.sizeOf235
 v60:=Tryz.zeroValue235
 i60:=by kernel_rfl
 t64:=Tryz.underlying238
 a64:=Tryz.isAgg238
 z64:=Tryz.sizeOf238
 v64:=Tryz.zeroValue238
 i64:=by kernel_rfl
 t66:=Tryz.underlying243
 a66:=Tryz.isAgg243
 z66:=Tryz.sizeOf243
 v66:=Tryz.zeroValue243
 i66:=by kernel_rfl
 t67:=Tryz.underlying244
 a67:=Tryz.isAgg244
 z67:=Tryz.sizeOf244
 v67:=Tryz.zeroValue244
 i67:=by kernel_rfl
 t75:=Tryz.underlying259
 a75:=Tryz.isAgg259
 z75:=Tryz.sizeOf259
 v75:=Tryz.zeroValue259
 i75:=by kernel_rfl
 t76:=Tryz.underlying260
 a76:=Tryz.isAgg260
 z76:=Tryz.sizeOf260
 v76:=Tryz.zeroValue260
 i76:=by kernel_rfl
 t77:=Tryz.underlying261
 a77:=Tryz.isAgg261
 z77:=Tryz.sizeOf261
 v77:=Tryz.zeroValue261
 i77:=by kernel_rfl
 t78:=Tryz.underlying262
 a78:=Tryz.isAgg262
 z78:=Tryz.sizeOf262
 v78:=Tryz.zeroValue262
 i78:=by kernel_rfl
 t79:=Tryz.underlying263
 a79:=Tryz.isAgg263
 z79:=Tryz.sizeOf263
 v79:=Tryz.zeroValue263
 i79:=by kernel_rfl
 t80:=Tryz.underlying264
 a80:=Tryz.isAgg264
 z80:=Tryz.sizeOf264
 v80:=Tryz.zeroValue264
 i80:=by kernel_rfl
 t82:=Tryz.underlying266
 a82:=Tryz.isAgg266
 z82:=Tryz.sizeOf266
 v82:=Tryz.zeroValue266
 i82:=by kernel_rfl }
end Go.Proofs.YtelefkkkccilaaaGreatDoor
namespace Go.Proofs.YtelefkkkccilaaaGreatDoor
open Go.RowKit
set_option maxRecDepth 100000
structure KE where
 kb:List UInt8
 ka:Option Addr
 kc:Nat
 p:It × It
 A1:Ad
 A2:Ad
def KE.cells (e:KE):List Value:=.slice e.ka e.kb.length e.kc :: (cells4 (e.p.1,e.A1) ++ cells4 (e.p.2,e.A2))
def KE.none:KE:=⟨[],.none,0,(It.none,It.none),⟨.none,0,0,.none,0,0⟩,⟨.none,0,0,.none,0,0⟩⟩
def keyE (L:List KE) (i:Nat):List UInt8:=((L[i]?).getD KE.none).kb
def encE (L:List KE) (i:Nat):List Value:=((L[i]?).getD KE.none).cells
def ltE (L:List KE) (i j:Nat):Bool:=decide (It.cmpB (keyE L i) (keyE L j) < 0)
theorem swo_ltE (L:List KE):Go.Sort.SWO (ltE L):=by
 refine ⟨fun x=>?_,fun x y z h1 h2=>?_,fun x y z h1 h2=>?_⟩
 ·unfold ltE;rw [It.cmpB_self];simp
 ·exact dt (It.cmpB_trans (of_decide_eq_true h1) (of_decide_eq_true h2))
 ·have h1:=of_decide_eq_false h1
  have h2:=of_decide_eq_false h2;have s1:=It.cmpB_swap (keyE L x) (keyE L y);have s2:=It.cmpB_swap (keyE L y) (keyE L z);have s3:=It.cmpB_swap (keyE L x) (keyE L z);have:=It.cmp_le_trans (a:=keyE L z) (b:=keyE L y) (c:=keyE L x) (by omega) (by omega);exact df (by omega)
theorem less_any (blk off c Bs size:Nat) (W:World) (K:Nat→List UInt8) (ka:Nat→Option Addr) (kc:Nat→Nat) (hs:W.cell? ⟨Bs,0,none⟩=some (.slice (some ⟨blk,off,none⟩) size c))
 (hc:∀ t,t < size→W.cell? ⟨blk,off + t * 9,none⟩=some (.slice (ka t) (K t).length (kc t))∧BR (fun _=>True) W (ka t) (K t).length (K t)) (i j:Nat) (hi:i < size) (hj:j < size) (hsz:size < 4611686018427387904):
 Calls Tryz.prog 110 #[.int .i64 i,.int .i64 j,.pointer (some ⟨Bs,0,none⟩)] W fun e w'=>e=.returned (.bool (decide (It.cmpB (K i) (K j) < 0)))∧∃ q,w'=W.drewN q:=by
 obtain ⟨ci,ri⟩:=hc i hi;obtain ⟨cj,rj⟩:=hc j hj;have hiz:(i:Int) < (size:Int):=by omega
 have hjz:(j:Int) < (size:Int):=by omega
 have HC:=fun q=>compare_any (c:=kc i) (d:=kc j) (ri.below (bd (Below.refl W.heap.size W) q)) (rj.below (bd (Below.refl W.heap.size W) q)) _ rfl
 generalize It.cmpB (K i) (K j)=C at *;generalize (K i).length=li at *;generalize (K j).length=lj at *;clear hc ri rj;go_enter Tryz.func110,Tryz.ntmps110
 go_wp2_with fail
 go_quiet ((go_at_call 111;go_must (exact quiet_at (HC _) ⟨_,rfl⟩)))
 go_wp2_with fail
 go_ret
 exact ⟨rfl,nq,rfl⟩
theorem encE_len (L:List KE) (i:Nat):(encE L i).length=9:=by unfold encE KE.cells;simp [cells4]
theorem encE_one (L:List KE) (i:Nat):∀ v ∈ encE L i,v.oneCell'=true:=fun v hv=>by
 unfold encE KE.cells at hv;simp [cells4] at hv;rcases hv with rfl | rfl | rfl | rfl | rfl | rfl | rfl | rfl | rfl <;> rfl
theorem keyE_br {L:List KE} {ok:Nat→Prop} {w:World} (h:∀ e ∈ L,BR ok w e.ka e.kb.length e.kb) (i:Nat):BR ok w ((L[i]?).getD KE.none).ka (keyE L i).length (keyE L i):=by
 unfold keyE;cases hi:L[i]? with
 | none=>exact BR.nil _ _ _
 | some e=>exact h e (List.mem_of_getElem? hi)
theorem BR.cells {ok:Nat→Prop} {w w':World} {a:Option Addr} {n:Nat} {l:List UInt8} (h:BR ok w a n l) (hk:∀ b o,ok b→b < w.heap.size→w'.cell? ⟨b,o,none⟩=w.cell? ⟨b,o,none⟩):BR (fun _=>True) w' a n l:=by
 refine ⟨h.1,h.2.1,fun i hi=>?_⟩;obtain ⟨b,o,e,hb,hc⟩:=h.2.2 i hi;exact ⟨b,o,e,trivial,(hk b (o + i) hb (lg hc)).trans hc⟩
noncomputable def svT:TypeInfo:=(Tryz.prog.info? 129).get (by kernel_rfl)
noncomputable def svE:TypeInfo:=(Tryz.prog.info? 131).get (by kernel_rfl)
theorem svK (n:Nat) (h2:2≤n):Lib.swapperK n svE 25=9:=by
 have a:svE.hasPointers=true:=by kernel_rfl
 have b:svE.bytes=152:=by kernel_rfl
 have c:(n==0)=false:=by simp;omega
 have d:(n==1)=false:=by simp;omega
 simp [Lib.swapperK,a,b,c,d]
open Go.Shelf Go.Lib Go.Sort in
theorem sort_any (L:List KE) (blk off c Bs:Nat) (w:World) (h2:2≤L.length) (hsz:L.length≤1000) (hH:HoldsK (encE L) 9 w blk off (Array.range L.length)) (hblk:blk < w.heap.size)
 (hBs:w.cell? ⟨Bs,0,none⟩=some (.slice (some ⟨blk,off,none⟩) L.length c)) (hB1:Bs < w.heap.size) (hB2:Bs≠blk) (hkeys:∀ e ∈ L,BR (fun b=>b≠blk) w e.ka e.kb.length e.kb):
 Calls Tryz.prog 109 #[.iface 129 (.slice (some ⟨blk,off,none⟩) L.length c),.func (.func 110) #[] #[.pointer (some ⟨Bs,0,none⟩)]] w fun e w'=>
  e=.returned (.tuple #[])∧∃ d' n os,PermIn 0 L.length (Array.range L.length) d'∧SortedIn (ltE L) 0 L.length d'∧w'=grow (putRowK (encE L) 9 (Sort.ahead w n) blk off d') os:=by
 have hsize:(Array.range L.length).size=L.length:=by simp
 have hless:LessReadsK Tryz.prog 110 #[.pointer (some ⟨Bs,0,none⟩)] (encE L) 9 (ltE L) blk off (Array.range L.length).size w:=by
  intro m os dk hs i j hi hj;have e:sortWorldK (encE L) 9 w blk off m dk os=putRowK (encE L) 9 (grow (Sort.ahead w m) os) blk off dk:=by
   unfold sortWorldK;rw [putRowK_grow _ _ (Sort.ahead w m) _ blk off _ hblk]
  have hHg:HoldsK (encE L) 9 (grow (Sort.ahead w m) os) blk off (Array.range L.length):=holdsK_grow _ _ _ _ blk off _ hblk (holdsK_ahead _ _ _ _ _ _ _ hH);refine less_any blk off c Bs L.length _ (fun t=>keyE L dk[t]!) (fun t=>((L[dk[t]!]?).getD KE.none).ka) (fun t=>((L[dk[t]!]?).getD KE.none).kc) ?_ (fun t ht=>?_) i j (by omega) (by omega) (by omega)
  ·rw [e,cell?_putRowK_other _ _ _ blk off dk _ (by exact hB2),cell?_grow _ _ _ (by exact hB1)];exact hBs
  ·rw [e]
   refine ⟨((holdsK_putRowK _ _ _ blk off _ dk hHg hs).cell (i:=t) (c:=0) (by omega) (by omega)).1,?_⟩;refine (keyE_br hkeys dk[t]!).cells fun b o hb hl=>?_
   rw [cell?_putRowK_other _ _ _ blk off dk _ (by exact hb),cell?_grow _ _ _ (by exact hl)]
   rfl
 have h:=Any.sort_Slice_cells_sorted tryzSort 129 131 svT svE (by kernel_rfl) (by kernel_rfl) (by kernel_rfl) (by kernel_rfl) 25 (fun _=>by kernel_rfl) (encE L) 9 (encE_len L) (by kernel_rfl) (fun _=>by kernel_rfl)
  (encE_one L) (ltE L) (swo_ltE L) 110 _
  (enters_of Tryz.func110 (by kernel_rfl) rfl) blk off c (Array.range L.length) (by omega) (by omega) 173 (by rw [svK _ (by omega)];kernel_rfl) false
  (fun args W=>run_callFunc_extern Tryz.func173 (by kernel_rfl) (by kernel_rfl) (by kernel_rfl) (e:=Extern.ReflectliteSwapper.swap false) (by kernel_rfl) args W) w hless hH hblk
 rw [hsize] at h;exact h
theorem inf131:(Tryz.prog.info? 131).map (fun i=>(i.zero,i.size,i.bytes))=some (some (.agg #[.slice none 0 0,.int .i64 0,.int .u64 0,.slice none 0 0,.slice none 0 0,.int .i64 0,.int .u64 0,.slice none 0 0,.slice none 0 0]),9,152):=by kernel_rfl
def RowK (W:World) (base:Nat) (v:Value) (L:List KE):Prop:=W.ownsRow base 131 9 v L.length (L.flatMap KE.cells)
theorem KE.cells_len (e:KE):e.cells.length=9:=by simp [KE.cells,cells4]
theorem flatE_len (L:List KE):(L.flatMap KE.cells).length=L.length * 9:=by
 induction L with
 | nil=>rfl
 | cons e L ih=>simp only [List.flatMap_cons,List.length_append,ih,List.length_cons,KE.cells_len];omega
theorem flatE_one (L:List KE):∀ u ∈ L.flatMap KE.cells,u.oneCell'=true:=fun u hu=>by
 obtain ⟨e,_,h⟩:=List.mem_flatMap.1 hu;simp [KE.cells,cells4] at h;rcases h with rfl | rfl | rfl | rfl | rfl | rfl | rfl | rfl | rfl <;> rfl
def zero9:Array Value:=#[.slice none 0 0,.int .i64 0,.int .u64 0,.slice none 0 0,.slice none 0 0,.int .i64 0,.int .u64 0,.slice none 0 0,.slice none 0 0]
theorem make129 (n:Nat) (hn:n≤1000) (u:World):(Instr.makeSlice 129 (.int .i64 0) (.int .i64 (n:Int))).run Tryz.prog u=.ok (.slice (some ⟨u.heap.size,0,none⟩) 0 n) (u.alloc (.cells (madeCells zero9 (n * 9)) 131)):=by
 obtain ⟨i,hi,z1,z2,z3⟩:=info_parts inf131;have:=run_makeSlice (P:=Tryz.prog) u 129 131 i _ Tryz.underlying129 hi z1 .i64 .i64 0 n (by omega) (by omega) (by rw [z2];omega) (by rw [z3];omega) (by omega);simpa [z2,Value.cells,zero9] using this
theorem RowK.made (w:World) (n:Nat) (hn:n≤1000) (base:Nat) (hb:base≤w.heap.size):RowK (w.alloc (.cells (madeCells zero9 (n * 9)) 131)) base (.slice (some ⟨w.heap.size,0,none⟩) 0 n) []:=
 ⟨rfl,.inr ⟨w.heap.size,n,_,rfl,hb,aw _ _,Nat.zero_le _,by unfold maxLen;omega,size_madeCells _ _,rfl⟩⟩
theorem RowK.push {W:World} {base:Nat} {v:Value} {L:List KE} (h:RowK W base v L) {b T:Nat} {e:KE} {c:Nat} (hb:W.heap[b]?=some (.cells e.cells.toArray T (0,0))) (hsz:L.length≤1000) (hbase:base≤W.heap.size):
 ∃ v' W',(Builtin.append_ #[129,129] 129 #[v,.slice (some ⟨b,0,none⟩) 1 c]).run Tryz.prog W=.ok v' W'∧RowK W' base v' (L ++ [e])∧W.grownBy W' v.ownBlock∧(v'.ownBlock=v.ownBlock∨v'.ownBlock=some W.heap.size):=by
 obtain ⟨i0,hi,hz0,hz1,hz2⟩:=info_parts inf131;obtain ⟨v',W',h2,h3,h4,_,h5⟩:=run_append_own_at (P:=Tryz.prog) W base 129 129 131 i0 _ 9 152 Tryz.underlying129 hi hz0 hz1 hz2 rfl (by omega) v L.length _ h ⟨b,0,none⟩ 1 c e.cells (by rw [KE.cells_len]) (fun j u hu=>by
  have hadd:(⟨b,0,none⟩:Addr).add j=⟨b,j,none⟩:=by unfold Addr.add;split <;> simp_all
  rw [hadd,cr hb];simpa using hu) (fun u hu=>flatE_one [e] u (by simpa using hu)) (by unfold maxLen;omega) (by omega) hbase
 refine ⟨v',W',h2,?_,h4,h5⟩;unfold RowK;rw [List.length_append,List.flatMap_append];simpa using h3
theorem flatE_get:∀ (L:List KE) (t:Nat),t < L.length * 9→(L.flatMap KE.cells)[t]?=(((L[t / 9]?).getD KE.none).cells)[t % 9]?
 | [],t,h=>by simp at h
 | e :: L,t,h=>by
   rw [List.flatMap_cons];rcases Nat.lt_or_ge t 9 with h9 | h9
   ·rw [List.getElem?_append_left (by rw [KE.cells_len];exact h9),Nat.div_eq_of_lt h9,Nat.mod_eq_of_lt h9];rfl
   ·rw [List.getElem?_append_right (by rw [KE.cells_len];exact h9),KE.cells_len,flatE_get L (t - 9) (by simp only [List.length_cons] at h;omega)]
    have e1:t / 9=(t - 9) / 9 + 1:=by omega
    have e2:t % 9=(t - 9) % 9:=by omega
    rw [e1,e2];rfl
def rowE (L:List KE) (d:Array Nat):List KE:=d.toList.map fun i=>(L[i]?).getD KE.none
theorem rowE_range (L:List KE):(List.range L.length).map (fun i=>(L[i]?).getD KE.none)=L:=by
 apply List.ext_getElem?
 intro i;rcases Nat.lt_or_ge i L.length with h | h
 ·simp [h]
 ·simp [h,List.getElem?_eq_none h]
theorem rowE_perm {L:List KE} {d:Array Nat} (h:Go.Sort.PermIn 0 L.length (Array.range L.length) d):(rowE L d).Perm L:=by
 obtain ⟨h1,_,h3⟩:=h;have hs:d.size=L.length:=by simpa using h1
 have e1:d.extract 0 L.length=d:=by rw [← hs];simp
 have e2:(Array.range L.length).extract 0 L.length=Array.range L.length:=by simp
 rw [e1,e2,Array.toList_range] at h3;have:=h3.map fun i=>(L[i]?).getD KE.none
 rw [rowE_range] at this;exact this
theorem rowE_sorted {L:List KE} {d:Array Nat} (hs:d.size=L.length) (h:Go.Sort.SortedIn (ltE L) 0 L.length d):(rowE L d).Pairwise fun a b=>It.cmpB a.kb b.kb≤0:=by
 rw [List.pairwise_iff_getElem];intro i j hi hj hij;have hi':i < d.size:=by simpa [rowE] using hi
 have hj':j < d.size:=by simpa [rowE] using hj
 have:=h i j (Nat.zero_le _) hij (by omega);rw [getElem!_pos d i hi',getElem!_pos d j hj'] at this;have:=of_decide_eq_false this;have s:=It.cmpB_swap (keyE L d[i]) (keyE L d[j]);have e:∀ (k:Nat) (hk:k < d.size) (hk':k < (rowE L d).length),(rowE L d)[k].kb=keyE L d[k]:=fun k hk hk'=>by simp [rowE,keyE]
 rw [e i hi' hi,e j hj' hj];omega
theorem rowE_get (L:List KE) (d:Array Nat) (t:Nat) (h:t < d.size * 9):(Go.Sort.flatK (encE L) 9 d)[t]?=((rowE L d).flatMap KE.cells)[t]?:=by
 have hl:(rowE L d).length=d.size:=by simp [rowE]
 have h9:t / 9 < d.size:=by omega
 rw [flatE_get _ _ (by rw [hl];exact h),getElem?_pos _ t (by simpa using h),← getElem!_pos _ t (by simpa using h),Go.Sort.get_flatK _ _ _ _ h];have e1:(rowE L d)[t / 9]?=some ((L[d[t / 9]]?).getD KE.none):=by simp [rowE,h9]
 rw [e1,getElem!_pos d _ h9];have hlt:t % 9 < (encE L d[t / 9]).length:=by rw [encE_len];omega
 rw [getElem!_pos (encE L d[t / 9]) (t % 9) hlt]
 show some (encE L d[t / 9])[t % 9]=(encE L d[t / 9])[t % 9]?
 rw [List.getElem?_eq_getElem hlt]
theorem swK01 (n:Nat) (h:n≤1):Lib.swapperK n svE 25=n + 1:=by
 rcases Nat.eq_zero_or_pos n with h | h
 ·subst h;simp [Lib.swapperK]
 ·obtain rfl:n=1:=by omega
  simp [Lib.swapperK]
theorem sort_row {w:World} {base Bs:Nat} {v:Value} {L:List KE} (h:RowK w base v L) (hsz:L.length≤1000) (hBs:w.heap[Bs]?=some (.cells #[v] 129 (0,0))) (hne:v.ownBlock≠some Bs) (hkeys:∀ e ∈ L,BR (fun b=>v.ownBlock≠some b) w e.ka e.kb.length e.kb):
 Calls Tryz.prog 109 #[.iface 129 v,.func (.func 110) #[] #[.pointer (some ⟨Bs,0,none⟩)]] w fun e w'=>
  e=.returned (.tuple #[])∧∃ L':List KE,L'.Perm L∧(L'.Pairwise fun a b=>It.cmpB a.kb b.kb≤0)∧RowK w' base v L'∧w.grownBy w' v.ownBlock:=by
 rcases Nat.lt_or_ge L.length 2 with h2 | h2
 ·obtain ⟨p,c,rfl⟩:=og h
  refine (Any.sort_Slice_tiny tryzSort 129 131 svT svE (by kernel_rfl) (by kernel_rfl) (by kernel_rfl) (by kernel_rfl) 25 (fun _=>by kernel_rfl) p L.length c (by omega) (165 + L.length) (by
   rw [swK01 _ (by omega)];rcases Nat.eq_zero_or_pos L.length with h | h
   ·rw [h];kernel_rfl
   ·obtain e:L.length=1:=by omega
    rw [e];kernel_rfl) (.func 110) #[] #[.pointer (some ⟨Bs,0,none⟩)] w).mono ?_
  rintro e w' ⟨rfl,os,rfl⟩;have hk:∀ k,k < w.heap.size→(Go.Sort.grow w os).heap[k]?=w.heap[k]?:=fun k hk=>by simp [Go.Sort.grow,Array.getElem?_append_left hk]
  refine ⟨rfl,L,List.Perm.refl _,?_,own_keep h fun g hg=>hk g (olt h hg).1,⟨rfl,rfl,rfl,by simp [Go.Sort.grow],fun k hk' _=>hk k hk'⟩⟩
  match L,h2 with
  | [],_=>exact List.Pairwise.nil
  | [e],_=>exact List.pairwise_singleton _ _
  | _ :: _ :: _,h=>simp at h;omega
 ·obtain ⟨hl,h0 | ⟨g,cap,cur,rfl,hb,hg,hn,hm,hs,ht⟩⟩:=h
  ·omega
  have hgl:=lb hg;have hBl:=lb hBs;have hne':Bs≠g:=fun e=>hne (by rw [e];rfl)
  have hat:∀ t,t < L.length * 9→cur[t]?=(L.flatMap KE.cells)[t]?:=fun t h=>by
   rw [← ht,List.getElem?_take_of_lt h];simp
  have hrg:∀ t,t < L.length * 9→(Go.Sort.flatK (encE L) 9 (Array.range L.length))[t]?=(L.flatMap KE.cells)[t]?:=fun t h=>by
   rw [rowE_get L _ t (by simpa using h)];have:rowE L (Array.range L.length)=L:=by unfold rowE;rw [Array.toList_range,rowE_range]
   rw [this]
  have hH:Go.Sort.HoldsK (encE L) 9 w g 0 (Array.range L.length):=by
   intro t h;have h:t < L.length * 9:=by simpa using h
   have h1:=hat t h;rw [← hrg t h] at h1;rw [getElem!_pos _ t (by simpa using h)];refine ⟨?_,by simp [World.frozen?,hg]⟩;rw [Nat.zero_add,cr hg,h1,getElem?_pos _ t (by simpa using h)];rfl
  refine (sort_any L g 0 cap Bs w h2 hsz hH hgl (by rw [cr hBs];rfl) hBl hne' (fun e he=>(hkeys e he).imp fun b hb _ e=>hb (by rw [e];rfl))).mono ?_;rintro e w' ⟨rfl,d',n,os,hP,hS,rfl⟩;have hd:d'.size=L.length:=by simpa using hP.1
  have hbk:∀ k,k < w.heap.size→some k≠some g→(Go.Sort.grow (Go.Sort.putRowK (encE L) 9 (Go.Sort.ahead w n) g 0 d') os).heap[k]?=w.heap[k]?:=fun k hk hne=>by
   have hne:¬ g=k:=fun e=>hne (by rw [e])
   simp [Go.Sort.grow,Go.Sort.putRowK,Go.Sort.putRow,Go.Sort.mapBlock,Go.Sort.ahead,Array.getElem?_append_left,hk,Array.getElem?_modify,Array.getElem_modify,hne]
  refine ⟨rfl,rowE L d',rowE_perm hP,rowE_sorted hd hS,?_,⟨rfl,rfl,rfl,by simp [Go.Sort.grow,Go.Sort.putRowK,Go.Sort.putRow,Go.Sort.mapBlock,Go.Sort.ahead],hbk⟩⟩;have hg':(Go.Sort.grow (Go.Sort.putRowK (encE L) 9 (Go.Sort.ahead w n) g 0 d') os).heap[g]?=some (.cells (Go.Sort.putCells id 0 (Go.Sort.flatK (encE L) 9 d') cur) 131 (0,0)):=by
   have:w.heap[g]=.cells cur 131 (0,0):=by rw [getElem?_pos _ g hgl] at hg;exact Option.some.inj hg
   simp [Go.Sort.grow,Go.Sort.putRowK,Go.Sort.putRow,Go.Sort.mapBlock,Go.Sort.ahead,Array.getElem?_append_left,hgl,Array.getElem?_modify,Array.getElem_modify,this,Go.Sort.onCells]
  have hrl:(rowE L d').length=L.length:=by simp [rowE,hd]
  unfold RowK;rw [hrl];refine ⟨by rw [flatE_len,hrl],.inr ⟨g,cap,_,rfl,hb,hg',hn,hm,by simpa [Go.Sort.putCells] using hs,?_⟩⟩;apply List.ext_getElem?
  intro t;rcases Nat.lt_or_ge t (L.length * 9) with hlt | hge
  ·rw [List.getElem?_take_of_lt hlt,← rowE_get L d' t (by omega)]
   have hc:t < cur.size:=by have:=Nat.mul_le_mul_right 9 hn;omega
   simp [Go.Sort.putCells,hc,hd,hlt]
  ·rw [List.getElem?_eq_none (by simp;omega),List.getElem?_eq_none (by rw [flatE_len,hrl];exact hge)]
def itE (e:KE):List (It × Ad):=[(e.p.1,e.A1),(e.p.2,e.A2)]
theorem itE_fst:∀ L:List KE,(L.flatMap itE).map (·.1)=It.flatK (L.map KE.p)
 | []=>rfl
 | e :: L=>by rw [List.flatMap_cons,List.map_append,itE_fst L];rfl
theorem itE_len:∀ L:List KE,(L.flatMap itE).length=2 * L.length
 | []=>rfl
 | e :: L=>by rw [List.flatMap_cons,List.length_append,itE_len L];simp [itE];omega
def At9 (W:World) (g q:Nat) (e:KE):Prop:=
 W.cell? ⟨g,q,none⟩=some (.slice e.ka e.kb.length e.kc)∧
 (W.cell? ⟨g,q + 1,none⟩=some (.int .i64 e.p.1.kind)∧W.cell? ⟨g,q + 2,none⟩=some (.int .u64 (e.p.1.num:Int))∧W.cell? ⟨g,q + 3,none⟩=some (.slice e.A1.ab e.A1.nb e.A1.cb)∧W.cell? ⟨g,q + 4,none⟩=some (.slice e.A1.ai e.A1.ni e.A1.ci))∧
 (W.cell? ⟨g,q + 5,none⟩=some (.int .i64 e.p.2.kind)∧W.cell? ⟨g,q + 6,none⟩=some (.int .u64 (e.p.2.num:Int))∧W.cell? ⟨g,q + 7,none⟩=some (.slice e.A2.ab e.A2.nb e.A2.cb)∧W.cell? ⟨g,q + 8,none⟩=some (.slice e.A2.ai e.A2.ni e.A2.ci))
theorem RowK.at {W:World} {base:Nat} {v:Value} {L:List KE} (h:RowK W base v L) (hp:0 < L.length):∃ g o c,v=.slice (some ⟨g,o,none⟩) L.length c∧v.ownBlock=some g∧base≤g∧g < W.heap.size∧∀ j (hj:j < L.length),At9 W g (o + j * 9) L[j]:=by
 obtain ⟨hl,⟨rfl,h0⟩ | ⟨g,cap,cur,rfl,hb,hh,hn,hc,hsz,ht⟩⟩:=h
 ·omega
 refine ⟨g,0,cap,rfl,rfl,hb,lb hh,fun j hj=>?_⟩;have hc:∀ t,t < 9→W.cell? ⟨g,0 + j * 9 + t,none⟩=(L[j].cells)[t]?:=fun t h=>by
  rw [Nat.zero_add,cr hh];have h1:j * 9 + t < L.length * 9:=by omega
  have h2:(L.flatMap KE.cells)[j * 9 + t]?=cur[j * 9 + t]?:=by
   rw [← ht,List.getElem?_take_of_lt h1];simp
  rw [← h2,flatE_get _ _ h1,show (j * 9 + t) / 9=j by omega,show (j * 9 + t) % 9=t by omega,List.getElem?_eq_getElem hj]
  rfl
 have h0:=hc 0 (by omega);have h1:=hc 1 (by omega);have h2:=hc 2 (by omega);have h3:=hc 3 (by omega);have h4:=hc 4 (by omega);have h5:=hc 5 (by omega);have h6:=hc 6 (by omega);have h7:=hc 7 (by omega);have h8:=hc 8 (by omega);exact ⟨h0,⟨h1,h2,h3,h4⟩,h5,h6,h7,h8⟩
theorem At9.below {W W':World} {n g q:Nat} {e:KE} (h:At9 W g q e) (hB:Below n W W') (hg:g < n):At9 W' g q e:=by
 obtain ⟨h0,⟨h1,h2,h3,h4⟩,h5,h6,h7,h8⟩:=h;have k:∀ o,W'.cell? ⟨g,o,none⟩=W.cell? ⟨g,o,none⟩:=fun o=>cu (hB.block g hg)
 exact ⟨(k _).trans h0,⟨(k _).trans h1,(k _).trans h2,(k _).trans h3,(k _).trans h4⟩,(k _).trans h5,(k _).trans h6,(k _).trans h7,(k _).trans h8⟩
theorem adj_lt:∀ {L:List KE},(L.Pairwise fun a b=>It.cmpB a.kb b.kb≤0)→(∀ i (h:i + 1 < L.length),L[i].kb≠L[i + 1].kb)→L.Pairwise fun a b=>It.cmpB a.kb b.kb < 0
 | [],_,_=>List.Pairwise.nil
 | [a],_,_=>List.pairwise_singleton _ _
 | a :: b :: L,h,hn=>by
   obtain ⟨h1,h2⟩:=List.pairwise_cons.1 h;have ih:=adj_lt h2 fun i hi=>hn (i + 1) (by simp only [List.length_cons] at *;omega)
   refine List.pairwise_cons.2 ⟨fun c hc=>?_,ih⟩;have hab:It.cmpB a.kb b.kb < 0:=by
    have h3:=h1 b (by simp);have h4:It.cmpB a.kb b.kb≠0:=fun e=>hn 0 (by simp) (It.cmpB_eq e)
    omega
   rcases List.mem_cons.1 hc with rfl | hc
   ·exact hab
   ·exact It.cmp_lt_le hab ((List.pairwise_cons.1 h2).1 c hc)
structure KS (ps:List It) (L:List KE):Prop where
 perm:(L.map KE.p).Perm (It.pairsK ps)
 srt:L.Pairwise fun a b=>It.cmpB a.kb b.kb≤0
 key:∀ e ∈ L,e.kb=It.enc e.p.1
 even:ps.length % 2=0
 val:ps.all It.valid=true
theorem KS.eq {ps:List It} {L:List KE} (h:KS ps L):It.buildP ps=if It.asc .none (It.flatK (It.sortK (It.pairsK ps)))=false then .err 7 else if It.valid (.mk 5 0 [] (It.flatK (It.sortK (It.pairsK ps))))=false then .err 8 else .ok (.mk 5 0 [] (It.flatK (It.sortK (It.pairsK ps)))):=by
 unfold It.buildP;rw [if_neg (by have:=h.even;omega),if_neg (by rw [h.val];simp)]
theorem KS.twice {ps:List It} {L:List KE} (h:KS ps L) {i:Nat} (hi:i + 1 < L.length) (he:L[i].kb=L[i + 1].kb):It.buildP ps=.err 7:=by
 rw [h.eq,if_pos];cases ha:It.asc .none (It.flatK (It.sortK (It.pairsK ps))) with
 | false=>rfl
 | true=>
   have hn:=(It.asc_sort _).1 ha;have hn2:=((h.perm.map It.key).nodup_iff).2 hn;rw [List.map_map] at hn2;have h1:=h.key _ (List.getElem_mem (show i < L.length by omega));have h2:=h.key _ (List.getElem_mem hi);refine absurd ?_ (List.pairwise_iff_getElem.1 hn2 i (i + 1) (by simp;omega) (by simpa using hi) (by omega));simp only [List.getElem_map,Function.comp];unfold It.key;rw [← h1,← h2];exact he
theorem KS.once {ps:List It} {L:List KE} (h:KS ps L) (hn:∀ i (h:i + 1 < L.length),L[i].kb≠L[i + 1].kb):It.buildP ps=if It.valid (.mk 5 0 [] (It.flatK (L.map KE.p)))=false then .err 8 else .ok (.mk 5 0 [] (It.flatK (L.map KE.p))):=by
 have hlt:=adj_lt h.srt hn;have hk:(L.map KE.p).Pairwise It.klt:=by
  rw [List.pairwise_map];refine hlt.imp_of_mem fun {a b} ha hb hab=>?_
  unfold It.klt It.key;rw [← h.key a ha,← h.key b hb];exact hab
 have hs:=It.sort_uniq h.perm hk;rw [h.eq,← hs,if_neg];rw [(It.asc_none _).2 hk];simp
