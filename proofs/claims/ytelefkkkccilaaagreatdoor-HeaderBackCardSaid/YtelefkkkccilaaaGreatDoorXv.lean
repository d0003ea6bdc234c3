/- The program's Build. -/
import Derived.Test.YtelefkkkccilaaaGreatDoorLM
set_option linter.all false
namespace Go.Proofs.YtelefkkkccilaaaGreatDoor
open Go.RowKit
set_option maxRecDepth 100000
def KOk (B base Bs:Nat) (v:Value) (W:World) (e:KE):Prop:=e.kb=It.enc e.p.1∧BR (fun b=>base≤b∧b≠Bs∧v.ownBlock≠some b) W e.ka e.kb.length e.kb∧IR (fun b=>b < B) W e.p.1 e.A1∧IR (fun b=>b < B) W e.p.2 e.A2
structure CB (B base Bs:Nat) (w1:World) (ps:List It) (q:Nat) (v:Value) (L:List KE) (W:World):Prop where
 box:W.heap[Bs]?=some (.cells #[v] 129 (0,0))
 row:RowK W base v L
 map:L.map KE.p=(It.pairsK ps).take q
 each:∀ e ∈ L,KOk B base Bs v W e
 own:v.ownBlock≠some Bs
 bel:Below w1.heap.size w1 W
 hBs:base≤Bs
def CLp (B base Bs:Nat) (w1:World) (ps:List It) (n:Nat) (i:Value) (W:World):Prop:=∃ (T q:Nat) (v:Value) (L:List KE),i=.int .i64 (T:Int)∧T=2 * q∧T≤n∧CB B base Bs w1 ps q v L W
theorem KOk.keep {B base Bs:Nat} {v v':Value} {W W':World} {e:KE} (h:KOk B base Bs v W e) (hB:B≤base) (hk:∀ b,b < W.heap.size→b≠Bs→v.ownBlock≠some b→W'.heap[b]?=W.heap[b]?) (hv:∀ b,v.ownBlock=some b→base≤b) (hBs:base≤Bs) (hn:∀ b,b < W.heap.size→v.ownBlock≠some b→v'.ownBlock≠some b):KOk B base Bs v' W' e:=by
 refine ⟨h.1,h.2.1.keep fun b hb hl=>⟨hk b hl hb.2.1 hb.2.2,hb.1,hb.2.1,hn b hl hb.2.2⟩,h.2.2.1.keep fun b hb hl=>⟨hk b hl (by omega) (fun e=>by have:=hv b e;omega),hb⟩,h.2.2.2.keep fun b hb hl=>⟨hk b hl (by omega) (fun e=>by have:=hv b e;omega),hb⟩⟩
theorem CB.push {B base Bs:Nat} {w1:World} {ps:List It} {q:Nat} {v v':Value} {L:List KE} {u W W':World} {e:KE} (h:CB B base Bs w1 ps q v L u) (hB:Below u.heap.size u W) (hgr:W.grownBy W' v.ownBlock) (hown:v'.ownBlock=v.ownBlock∨v'.ownBlock=some W.heap.size) (hrow:RowK W' base v' (L ++ [e]))
 (hk:e.kb=It.enc e.p.1) (hbr:BR (fun b=>u.heap.size≤b) W e.ka e.kb.length e.kb) (h1:IR (fun b=>b < B) u e.p.1 e.A1) (h2:IR (fun b=>b < B) u e.p.2 e.A2) (hp:(It.pairsK ps)[q]?=some e.p) (hBb:B≤base) (hbase:base=w1.heap.size):
 CB B base Bs w1 ps (q + 1) v' (L ++ [e]) (W'.setCell ⟨Bs,0,none⟩ v'):=by
 have hbl:=lb h.box;have hsz:=hB.size;have hvb:∀ b,v.ownBlock=some b→base≤b∧b < u.heap.size:=fun b e=>⟨(olt h.row e).2.1,(olt h.row e).1⟩
 have hW:∀ b,b < u.heap.size→v.ownBlock≠some b→W'.heap[b]?=u.heap[b]?:=fun b hb hn=>(hgr.block b (by omega) (fun e=>hn e.symm)).trans (hB.block b hb)
 have hWs:∀ b,b < u.heap.size→b≠Bs→v.ownBlock≠some b→(W'.setCell ⟨Bs,0,none⟩ v').heap[b]?=u.heap[b]?:=fun b hb hne hn=>(Below.heap_setCell _ _ _ _ hne).trans (hW b hb hn)
 have hbx:W'.heap[Bs]?=some (.cells #[v] 129 (0,0)):=(hW Bs hbl h.own).trans h.box;have hvn:∀ b,b < u.heap.size→v.ownBlock≠some b→v'.ownBlock≠some b:=fun b hb hn e=>by
  rcases hown with ho | ho
  ·exact hn (ho ▸ e)
  ·rw [ho] at e;cases e;omega
 have hv's:v'.ownBlock≠some Bs:=hvn Bs hbl h.own;have hbs:=h.hBs;refine ⟨by have:=sar hbx 0 v';simpa using this,?_,?_,fun e' he'=>?_,hv's,?_,h.hBs⟩
 ·exact own_keep hrow fun g hg=>Below.heap_setCell _ _ _ _ (fun e=>hv's (by have e2:g=Bs:=e;rw [← e2];exact hg))
 ·rw [List.map_append,h.map,List.take_add_one,hp];rfl
 ·rcases List.mem_append.1 he' with he' | he'
  ·exact (h.each e' he').keep hBb hWs (fun b e=>(hvb b e).1) hbs hvn
  ·simp only [List.mem_singleton] at he'
   subst he';refine ⟨hk,hbr.keep fun b hb hl=>⟨?_,by have:=h.bel.size;omega,by omega,fun e=>?_⟩,h1.keep fun b hb hl=>⟨hWs b hl (by omega) (fun e=>by have:=(hvb b e).1;omega),hb⟩,h2.keep fun b hb hl=>⟨hWs b hl (by omega) (fun e=>by have:=(hvb b e).1;omega),hb⟩⟩
   ·rw [Below.heap_setCell _ _ _ _ (show b≠Bs by omega)]
    exact hgr.block b hl (fun e=>by have:=(hvb b e.symm).2;omega)
   ·rcases hown with ho | ho
    ·have:=(hvb b (ho ▸ e)).2;omega
    ·rw [ho] at e;cases e;omega
 ·have hb2:Below w1.heap.size w1 W':=bg (pt h.bel hB) (by have:=h.bel.size;omega) (own_pure (hbase ▸ h.row) hB) hgr
  exact hb2.setCell (p:=⟨Bs,0,none⟩) (by show w1.heap.size≤Bs;omega) v'
def CE (B Bm:Nat) (w4:World) (L:List KE) (i:Value) (W:World):Prop:=∃ (j:Nat) (vi:Value),i=.int .i64 (j:Int)∧j≤L.length∧W.heap[Bm]?=some (.cells #[.int .i64 5,.int .u64 0,.slice none 0 0,vi] 26 (0,0))∧OutI W (Bm + 1) (fun b=>b < B) vi ((L.take j).flatMap itE)∧Below Bm w4 W∧∀ i,i + 1 < j→∀ (h2:i + 1 < L.length),L[i].kb≠L[i + 1].kb
theorem CE.step {B Bm j:Nat} {w4 u W10 W11:World} {L:List KE} {e:KE} {vi v11:Value} (hB4:Below Bm w4 u) (hB10:Below u.heap.size u W10) (hmb:u.heap[Bm]?=some (.cells #[.int .i64 5,.int .u64 0,.slice none 0 0,vi] 26 (0,0))) (hO:OutI W10 (Bm + 1) (fun b=>b < B) vi ((L.take j).flatMap itE)) (hO11:OutI W11 (Bm + 1) (fun b=>b < B) v11 ((L.take j).flatMap itE ++ itE e)) (hgr:W10.grownBy W11 vi.ownBlock) (he:L[j]?=some e) (hBm:B≤Bm)
 (hadj:∀ i,i + 1 < j + 1→∀ (h2:i + 1 < L.length),L[i].kb≠L[i + 1].kb):CE B Bm w4 L (.int .i64 ((j + 1:Nat):Int)) (W11.setCell ⟨Bm,3,none⟩ v11):=by
 have hmbl:=lb hmb;have hs10:=hB10.size;have hvi:∀ b,vi.ownBlock=some b→Bm + 1≤b:=fun b e=>(olt hO.row e).2.1
 have h11:∀ b,b≤Bm→W11.heap[b]?=u.heap[b]?:=fun b hb=>(hgr.block b (by omega) (fun e=>by have:=hvi b e.symm;omega)).trans (hB10.block b (by omega))
 refine ⟨j + 1,v11,rfl,?_,?_,?_,?_,hadj⟩
 ·have:=List.getElem?_eq_some_iff.1 he
  exact this.1
 ·have:=sar ((h11 Bm (Nat.le_refl _)).trans hmb) 3 v11
  simpa using this
 ·rw [List.take_add_one,he]
  have:((L.take j) ++ (some e).toList).flatMap itE=(L.take j).flatMap itE ++ itE e:=by simp
  rw [this];exact hO11.keep (fun g hg=>Below.heap_setCell _ _ _ _ (by have:=(olt hO11.row hg).2.1;show g≠Bm;omega)) fun b hb _=>Below.heap_setCell _ _ _ _ (by show b≠Bm;omega)
 ·have hb2:Below Bm w4 W11:=⟨hgr.os.trans (hB10.os.trans hB4.os),hgr.tape.trans (hB10.tape.trans hB4.tape),hgr.output.trans (hB10.output.trans hB4.output),Nat.le_trans hB4.size (Nat.le_trans hB10.size hgr.size),fun k hk=>(h11 k (by omega)).trans (hB4.block k hk)⟩
  exact hb2.setCell (p:=⟨Bm,3,none⟩) (by show Bm≤Bm;omega) v11
def BPostC (r:It.MR) (w:World) (e:Ending) (w':World):Prop:=match r with
 | .err n=>e=.returned (.tuple #[.agg #[.int .i64 0,.int .u64 0,.slice none 0 0,.slice none 0 0],.int .i64 n])∧Below w.heap.size w w'
 | .ok x=>∃ A:Ad,e=.returned (.tuple #[.agg #[.int .i64 x.kind,.int .u64 (x.num:Int),.slice A.ab A.nb A.cb,.slice A.ai A.ni A.ci],.int .i64 0])∧IR (fun b=>w.heap.size≤b) w' x A∧Below w.heap.size w w'∧A.ci=A.ni
theorem BPostC.post {r:It.MR} {w:World} {e:Ending} {w':World} (h:BPostC r w e w'):BPost r w e w':=by
 cases r with
 | err n=>exact h
 | ok x=>
   obtain ⟨A,h1,h2,h3,_⟩:=h;exact ⟨A,h1,h2,h3⟩
set_option maxHeartbeats 16000000 in
theorem cbuild_cap (ps:List It) (a:Option Addr) (n c:Nat) (w:World) (ok:Nat→Prop) (hT:TL ok w ps a n) (hn:n≤1000) (hE:Env w):
 Calls Tryz.prog 60 #[.slice a n c] w (BPostC (It.buildP ps) w):=by
 have HNI:Hid (n=ps.length):=dh hT.1;obtain ⟨P0,N0⟩:=an w o4z;have hsz:(w.alloc o4z).heap.size=w.heap.size + 1:=by simp
 have HSZ:=dh hsz;have HP:=dh P0;have HN0:=dh N0;have HE:=dh (hE.below P0);have HT:=dh ((hT.imp (ok':=fun b=>b < w.heap.size) fun b _ h=>h).below P0);clear P0 N0 hT hE hsz;by_cases hodd:n % 2=1
 ·have hb:It.buildP ps=.err 1:=by
   unfold It.buildP;rw [if_pos (by have:=HNI.out;omega)]
  rw [hb];have ho:((n:Int) % 2==1)=true:=by simp;omega
  have ho2:(n:Int) % 2=1:=by omega
  have r:=cf HN0.out;obtain ⟨q0,q1,q2,q3⟩:=ff HN0.out;clear hodd hb;go_enter Tryz.func60,Tryz.ntmps60
  go_upto_region 1 with fail
  generalize w.alloc _=w1 at *;generalize hB:w.heap.size=B at *;go_wp2_with fail
  clear r q0 q1 q2 q3;obtain ⟨W',hW',hp4,hs4,hb4⟩:=pq0 (W:=w1) (b:=B) (HN0.out);rw [hW'];clear hW';obtain ⟨g0,g1,g2,g3⟩:=cf hp4;refine bodyPost_ret (v:=.tuple #[vz,.int .i64 1]) (by simp [vz,results,Tryz.results60,go_sem,g0,g1,g2,g3]) rfl ?_;exact ⟨rfl,by rw [hB];exact hb4 B w HP.out (by omega)⟩
 ·have ho:((n:Int) % 2==1)=false:=by simp;omega
  have ho2:(n:Int) % 2=0:=by omega
  have HEV:Hid (ps.length % 2=0):=dh (by have:=HNI.out;omega);have hn':(n:Int)≤1000:=by omega
  clear hodd;go_enter Tryz.func60,Tryz.ntmps60
  go_upto_region 1 with fail
  generalize w.alloc _=w1 at *;generalize hB:w.heap.size=B at *;go_wp2_with fail
  clear ho ho2;go_loopw [18] (fun i W=>∃ j:Nat,i=.int .i64 (j:Int)∧j≤n∧VL ps j∧Below w1.heap.size w1 W) (fun i _=>n - (intOf i).toNat)
  case atStart=>exact ⟨0,rfl,by omega,fun q _ h=>by omega,Below.refl _ _⟩
  case round=>
   obtain ⟨j,rfl,hj,hval,hW⟩:=hrel;by_cases hjn:j < n
   ·have hjk:j < ps.length:=by have:=HNI.out;omega
    have HN1:=kp hW HN0;obtain ⟨b',o',A',rfl,hb',⟨c0,c1,c2,c3⟩,hI'⟩:=(HT.out.below hW).2.2 j hjk;have PA:=al wr (.cells #[.int .i64 ps[j].kind,.int .u64 (ps[j].num:Int),.slice A'.ab A'.nb A'.cb,.slice A'.ai A'.ni A'.ci] 26);have HVA:=dh hval;have hlt:(j:Int) < (n:Int):=by omega
    cases hv:It.valid ps[j] with
    | false=>
      have hb:It.buildP ps=.err 1:=by
       have hall:ps.all It.valid=false:=by
        rw [Bool.eq_false_iff];intro h;have:=List.all_eq_true.1 h ps[j] (List.getElem_mem hjk);rw [hv] at this;cases this
       unfold It.buildP;rw [if_neg (by have:=HEV.out;omega),if_pos hall]
      rw [hb];have HC:=dh (cva ps[j] A' (wr.alloc (.cells #[.int .i64 ps[j].kind,.int .u64 (ps[j].num:Int),.slice A'.ab A'.nb A'.cb,.slice A'.ai A'.ni A'.ci] 26)) _ (hI'.below PA) ((HE.out.below hW).below PA) false hv);have HPA:=dh (pt hW PA);clear hI' PA hW hval hv hb;generalize ps[j]=y at *;go_wp2_with fail
      refine HC.out.mono ?_;rintro e w6 ⟨rfl,B6⟩;have HB6:=dh (HP.out.trans ((pt HPA.out B6).mono (by have:=HP.out.size;omega)));have HN6:=kp (pt HPA.out B6) HN0;clear B6 c0 c1 c2 c3;have r:=cf HN6.out;obtain ⟨q0,q1,q2,q3⟩:=ff HN6.out;go_wp2_with fail
      clear r q0 q1 q2 q3;obtain ⟨W',hW',hp4,hs4,hb4⟩:=pq0 (W:=w6) (b:=B) (HN6.out);rw [hW'];clear hW';obtain ⟨g0,g1,g2,g3⟩:=cf hp4;refine bodyPost_ret (v:=.tuple #[vz,.int .i64 1]) (by simp [vz,results,Tryz.results60,go_sem,g0,g1,g2,g3]) rfl ?_;exact ⟨rfl,by rw [hB];exact hb4 B w HB6.out (by omega)⟩
    | true=>
      have HC:=dh (cva ps[j] A' (wr.alloc (.cells #[.int .i64 ps[j].kind,.int .u64 (ps[j].num:Int),.slice A'.ab A'.nb A'.cb,.slice A'.ai A'.ni A'.ci] 26)) _ (hI'.below PA) ((HE.out.below hW).below PA) true hv);have HPA:=dh (pt hW PA);have HVN:Hid (VL ps (j + 1)):=dh fun q h hq=>by
       by_cases e:q=j
       ·subst e;exact hv
       ·exact hval q h (by omega)
      clear hI' PA hW hval hv;generalize ps[j]=y at *;go_wp2_with fail
      refine HC.out.mono ?_;rintro e w6 ⟨rfl,B6⟩;have HB6:=dh (pt HPA.out B6);clear B6 c0 c1 c2 c3;go_wp2_with fail
      go_roundw
      case rel=>exact ⟨j + 1,by go_num,by omega,HVN.out,HB6.out⟩
      case measure=>simp [intOf];omega
   ·have HV:Hid (∀ x ∈ ps,It.valid x=true):=dh fun x hx=>by
     obtain ⟨q,hq,rfl⟩:=List.mem_iff_getElem.1 hx;exact hval q hq (by have:=HNI.out;omega)
    have HW:=dh hW;have hjz:¬ (j:Int) < (n:Int):=by omega
    clear hval hW;go_wp2_with fail
    have h2n:((n / 2:Nat):Int)=(n:Int) / 2:=by omega
    have hmk:=fun W=>make129 (n / 2) (by omega) W
    rw [h2n] at hmk;have hsw:=HW.out.size;have P5:=al wr (.cells (madeCells zero9 (n / 2 * 9)) 131);have P6:=al (wr.alloc (.cells (madeCells zero9 (n / 2 * 9)) 131)) (.cells #[.slice (some ⟨wr.heap.size,0,none⟩) 0 (n / 2)] 129);have N6:=aw (wr.alloc (.cells (madeCells zero9 (n / 2 * 9)) 131)) (.cells #[.slice (some ⟨wr.heap.size,0,none⟩) 0 (n / 2)] 129);have hsz5:(wr.alloc (.cells (madeCells zero9 (n / 2 * 9)) 131)).heap.size=wr.heap.size + 1:=by simp
    have HCB:Hid (CB B w1.heap.size (wr.alloc (.cells (madeCells zero9 (n / 2 * 9)) 131)).heap.size w1 ps 0 (.slice (some ⟨wr.heap.size,0,none⟩) 0 (n / 2)) [] ((wr.alloc (.cells (madeCells zero9 (n / 2 * 9)) 131)).alloc (.cells #[.slice (some ⟨wr.heap.size,0,none⟩) 0 (n / 2)] 129))):=dh ⟨N6,own_pure (RowK.made wr (n / 2) (by omega) w1.heap.size hsw) P6,by simp,fun e he=>by simp at he,(fun e=>by have:=Option.some.inj (show some wr.heap.size=some (wr.alloc (.cells (madeCells zero9 (n / 2 * 9)) 131)).heap.size from e);omega),pt (pt HW.out P5) P6,by omega⟩;rw [hsz5] at HCB;clear P5 P6 N6 h2n hsz5;go_wp2_with fail
    rw [hmk wr];go_wp2_with fail
    clear hmk;generalize hw6:(wr.alloc (.cells (madeCells zero9 (n / 2 * 9)) 131)).alloc (.cells #[.slice (some ⟨wr.heap.size,0,none⟩) 0 (n / 2)] 129)=w6 at *;generalize hBse:wr.heap.size + 1=Bs at *;clear hw6;go_loopw [7] (fun i W=>CLp B w1.heap.size Bs w1 ps n i W) (fun i _=>n - (intOf i).toNat)
    case atStart=>exact ⟨0,0,_,[],rfl,rfl,by omega,HCB.out⟩
    case round=>
     obtain ⟨u,hu⟩:∃ u,u=wr:=⟨_,rfl⟩;subst hu;obtain ⟨T,q,v,L,rfl,hTq,hTn,hCB⟩:=hrel;by_cases hqn:T < n
     ·have hq1:T + 1 < ps.length:=by have:=HNI.out;have:=HEV.out;omega
      obtain ⟨p,hp⟩:∃ p,p=(ps[T],ps[T + 1]):=⟨_,rfl⟩;have hpg:(It.pairsK ps)[q]?=some p:=by subst hTq;rw [hp];exact pairsK_get hq1
      have hltq:(T:Int) < (n:Int):=by omega
      have hlq:L.length=q:=by have:=congrArg List.length hCB.map;rw [List.length_map,List.length_take] at this;have:=It.pairsK_length ps HEV.out;have:=HNI.out;omega
      obtain ⟨b',o',A2,rfl,hbb,⟨y0,y1,y2,y3⟩,hI2⟩:=(HT.out.below hCB.bel).2.2 T (by omega);obtain ⟨b5,o5,A3,eab,_,⟨z0,z1,z2,z3⟩,hI3⟩:=(HT.out.below hCB.bel).2.2 (T + 1) hq1;cases eab
      have hpk:ps[T]=p.1:=by rw [hp]
      have hpv:ps[T + 1]=p.2:=by rw [hp]
      rw [hpk] at y0 y1 hI2;rw [hpv] at z0 z1 hI3;have hv1:=valid_wf (HV.out p.1 (by rw [← hpk];exact List.getElem_mem _));have CA:=dh (add_new hv1.1 hI2 (by omega));have hly0:=lg y0;obtain ⟨va,vc,ev⟩:=og hCB.row;rw [hlq] at ev;subst ev;have hbl:=lb hCB.box;have hb0:u.cell? ⟨Bs,0,none⟩=some (.slice va q vc):=by rw [cr hCB.box];rfl
      have hBsz:=hCB.bel.size;have hB1:=HSZ.out;have hbs:=hCB.hBs;have HBB:=dh (show b' < B∧B≤w1.heap.size∧w1.heap.size≤Bs from ⟨hbb,by have:=HSZ.out;omega,hCB.hBs⟩);have HCB:=dh hCB;have HPG:=dh hpg;have HI2:=dh hI2;have HI3:=dh hI3;have HTQ:=dh hTq;have HLQ:=dh hlq;have hq5:q≤1000:=by omega
      obtain ⟨T1,hT1e⟩:∃ T1,T1=T + 1:=⟨_,rfl⟩;rw [← hT1e] at z0 z1 z2 z3;have HT1:=dh (show T1=T + 1∧T1 < n from ⟨hT1e,by have:=HNI.out;omega⟩);have hwT:IntKind.i64.wrap ((T:Int) + 1)=(T1:Int):=by rw [IntWalk.i64_in _ (by omega)];omega
      have hTz:(T1:Int) < (n:Int):=by have:=HNI.out;omega
      have hTz2:T1 < n:=by omega
      have hTz3:(T:Int) + 2≤1002:=by omega
      clear hCB hpg hpk hpv hp hv1 hI2 hI3 hq1 hTq hlq hT1e;go_wp2_with fail
      refine wp_region_held_drew (S:=(fun w'=>(w'.cell? ⟨b',o' + T * 4,none⟩=some (.int .i64 p.1.kind)∧w'.cell? ⟨b',o' + T * 4 + 1,none⟩=some (.int .u64 (p.1.num:Int))∧w'.cell? ⟨b',o' + T * 4 + 2,none⟩=some (.slice A2.ab A2.nb A2.cb)∧w'.cell? ⟨b',o' + T * 4 + 3,none⟩=some (.slice A2.ai A2.ni A2.ci))∧w'.cell? ⟨b',o' + T1 * 4,none⟩=some (.int .i64 p.2.kind)∧w'.cell? ⟨b',o' + T1 * 4 + 1,none⟩=some (.int .u64 (p.2.num:Int))∧w'.cell? ⟨b',o' + T1 * 4 + 2,none⟩=some (.slice A3.ab A3.nb A3.cb)∧w'.cell? ⟨b',o' + T1 * 4 + 3,none⟩=some (.slice A3.ai A3.ni A3.ci))) (by kernel_rfl) ⟨⟨y0,y1,y2,y3⟩,z0,z1,z2,z3⟩ (fun hHeld=>?_);refine tk 1 rfl hHeld ?_;simp only [Act.put,sx]
      refine tk 2 rfl hHeld ?_;simp only [Act.put,sx]
      refine tk 3 rfl hHeld ?_;simp only [Act.put,sx]
      refine tk 4 rfl hHeld ?_;simp only [Act.put,sx]
      refine tk 6 rfl hHeld ?_;simp only [Act.put,sx]
      refine tk 7 rfl hHeld ?_;simp only [Act.put,sx]
      refine tk 8 rfl hHeld ?_;simp only [Act.put,sx]
      refine tk 9 rfl hHeld ?_;simp only [Act.put,sx]
      refine tk 10 rfl hHeld ?_;simp only [Act.put,sx]
      refine tk 11 rfl hHeld ?_;simp only [Act.put,sx]
      refine tk 12 rfl hHeld ?_;simp only [Act.put,sx]
      refine tk 13 rfl hHeld ?_;simp only [Act.put,sx]
      refine tk 14 rfl hHeld ?_;simp only [Act.put,sx]
      refine wpAnyH_ready (rs:=[0,5]) (by kernel_rfl) (by simp) ?_;refine AllReadyH.cons rfl (fun K1 hK1=>?_) (AllReadyH.cons rfl (fun K1 hK1=>?_) AllReadyH.nil)
      ·go_simp
       refine hK1.out _ _ hHeld (fun hHeld=>?_);clear hK1
       try simp only [sz]
       refine ry 5 (by kernel_rfl) rfl fun K1 hK1=>?_
       go_simp
       refine (CA.out _ (bd (Below.refl _ _) 1)).mono ?_;rintro e v6 g6;obtain ⟨a6,k6,rfl,O6,R6,hk6,hk6m,B6⟩:=g6.open;have HB6:=dh (pt (bd (Below.refl u.heap.size u) 1) B6);have HR6:=dh (R6.imp (ok':=fun b=>u.heap.size≤b) fun b hb _=>hb);have hbs6:=(HB6.out.cell (p:=⟨Bs,0,none⟩) hbl).trans hb0;generalize hkl:(It.enc p.1).length=kl at *;have HKL:=dh hkl;clear O6 R6 hk6 hk6m B6 g6 hkl;refine hK1.out _ _ ⟨(c4k HB6.out hly0 y0 y1 y2 y3:),(c4k HB6.out hly0 z0 z1 z2 z3:)⟩ (fun hHeld=>?_);clear hK1
       try simp only [sz]
       refine tk 15 rfl hHeld ?_;simp only [Act.put,sx]
       refine ry 16 (by kernel_rfl) rfl fun K1 hK1=>?_
       go_simp
       have HB16:=dh (pt HB6.out (al v6 (.cells #[.slice a6 kl k6,.int .i64 p.1.kind,.int .u64 (p.1.num:Int),.slice A2.ab A2.nb A2.cb,.slice A2.ai A2.ni A2.ci,.int .i64 p.2.kind,.int .u64 (p.2.num:Int),.slice A3.ab A3.nb A3.cb,.slice A3.ai A3.ni A3.ci] 131)));have HN16:=dh (aw v6 (.cells #[.slice a6 kl k6,.int .i64 p.1.kind,.int .u64 (p.1.num:Int),.slice A2.ab A2.nb A2.cb,.slice A2.ai A2.ni A2.ci,.int .i64 p.2.kind,.int .u64 (p.2.num:Int),.slice A3.ab A3.nb A3.cb,.slice A3.ai A3.ni A3.ci] 131));have HR16:=dh (HR6.out.below (al v6 (.cells #[.slice a6 kl k6,.int .i64 p.1.kind,.int .u64 (p.1.num:Int),.slice A2.ab A2.nb A2.cb,.slice A2.ai A2.ni A2.ci,.int .i64 p.2.kind,.int .u64 (p.2.num:Int),.slice A3.ab A3.nb A3.cb,.slice A3.ai A3.ni A3.ci] 131)));have hbs16:=(HB16.out.cell (p:=⟨Bs,0,none⟩) hbl).trans hb0;refine hK1.out _ _ ⟨(c4k HB16.out hly0 y0 y1 y2 y3:),(c4k HB16.out hly0 z0 z1 z2 z3:)⟩ (fun hHeld=>?_);clear hK1
       try simp only [sz]
       refine ry 17 (by kernel_rfl) rfl fun K1 hK1=>?_
       obtain ⟨v17,W17,hrun,hO17,hgr,hown⟩:=RowK.push (base:=w1.heap.size) (c:=1) (own_pure HCB.out.row HB16.out) (e:=(KE.mk (It.enc p.1) a6 k6 p A2 A3)) (b:=v6.heap.size) (T:=131) (by have:=HKL.out;subst this;exact HN16.out) (by have:=HLQ.out;omega) (by have:=HB16.out.size;omega);obtain ⟨a17,c17,ev17⟩:=og hO17;generalize (L ++ [(KE.mk (It.enc p.1) a6 k6 p A2 A3)]).length=n17 at ev17;subst ev17;have HCB17:=dh (HCB.out.push HB16.out hgr hown hO17 rfl (by have:=HKL.out;subst this;exact HR16.out) HI2.out HI3.out HPG.out HBB.out.2.1 rfl);have hne:(Value.slice va q vc).ownBlock≠some Bs:=HCB.out.own;have hb17:∀ b,b < u.heap.size→(Value.slice va q vc).ownBlock≠some b→W17.heap[b]?=u.heap[b]?:=fun b hb hn=>(hgr.block b (by have:=HB16.out.size;omega) (fun e=>hn e.symm)).trans (HB16.out.block b hb)
       have hy17:=hb17 b' hly0 (fun e=>by have:=(olt HCB.out.row e).2.1;have:=HBB.out;omega);have hx17:W17.heap[Bs]?=some (.cells #[.slice va q vc] 129 (0,0)):=(hb17 Bs hbl hne).trans HCB.out.box;have hc17:W17.cell? ⟨Bs,0,none⟩=some (.slice va q vc):=by rw [cr hx17];rfl
       have hf17:W17.frozen? ⟨Bs,0,none⟩=false:=by simp [World.frozen?,hx17]
       rw [if_pos (by rfl)];refine wp_app _ _ 129 rfl rfl rfl hrun ?_;clear hrun hO17 hgr hown hb17 hx17;refine hK1.out _ _ ⟨⟨(cu hy17).trans y0,(cu hy17).trans y1,(cu hy17).trans y2,(cu hy17).trans y3⟩,(cu hy17).trans z0,(cu hy17).trans z1,(cu hy17).trans z2,(cu hy17).trans z3⟩ (fun hHeld=>?_);clear hK1
       try simp only [sz]
       refine ry 18 (by kernel_rfl) rfl fun K1 hK1=>?_
       go_simp
       have hy18:=(Below.heap_setCell W17 ⟨Bs,0,none⟩ (.slice a17 n17 c17) b' (by show b'≠Bs;have:=HBB.out;omega)).trans hy17;refine hK1.out _ _ ⟨⟨(cu hy18).trans y0,(cu hy18).trans y1,(cu hy18).trans y2,(cu hy18).trans y3⟩,(cu hy18).trans z0,(cu hy18).trans z1,(cu hy18).trans z2,(cu hy18).trans z3⟩ (fun hHeld=>?_);clear hK1
       try simp only [sz]
       refine wpAnyH_done (by kernel_rfl) ?_ _
       try simp only [sz]
       clear hHeld;generalize W17.setCell ⟨Bs,0,none⟩ (.slice a17 n17 c17)=W18 at *;go_wp2_with fail
       go_roundw
       case rel=>exact ⟨T + 2,q + 1,_,_,by go_num,by have:=HTQ.out;omega,by have:=HT1.out;omega,HCB17.out⟩
       case measure=>simp [intOf];omega
      ·go_simp
       refine (CA.out _ (bd (Below.refl _ _) 1)).mono ?_;rintro e v6 g6;obtain ⟨a6,k6,rfl,O6,R6,hk6,hk6m,B6⟩:=g6.open;have HB6:=dh (pt (bd (Below.refl u.heap.size u) 1) B6);have HR6:=dh (R6.imp (ok':=fun b=>u.heap.size≤b) fun b hb _=>hb);have hbs6:=(HB6.out.cell (p:=⟨Bs,0,none⟩) hbl).trans hb0;generalize hkl:(It.enc p.1).length=kl at *;have HKL:=dh hkl;clear O6 R6 hk6 hk6m B6 g6 hkl;refine hK1.out _ _ ⟨(c4k HB6.out hly0 y0 y1 y2 y3:),(c4k HB6.out hly0 z0 z1 z2 z3:)⟩ (fun hHeld=>?_);clear hK1
       try simp only [sz]
       refine tk 15 rfl hHeld ?_;simp only [Act.put,sx]
       refine wpAnyH_ready (rs:=[0,16]) (by kernel_rfl) (by simp) ?_;refine AllReadyH.cons rfl (fun K1 hK1=>?_) (AllReadyH.cons rfl (fun K1 hK1=>?_) AllReadyH.nil)
       ·go_simp
        refine hK1.out _ _ hHeld (fun hHeld=>?_);clear hK1
        try simp only [sz]
        refine ry 16 (by kernel_rfl) rfl fun K1 hK1=>?_
        go_simp
        have HB16:=dh (pt HB6.out (al v6 (.cells #[.slice a6 kl k6,.int .i64 p.1.kind,.int .u64 (p.1.num:Int),.slice A2.ab A2.nb A2.cb,.slice A2.ai A2.ni A2.ci,.int .i64 p.2.kind,.int .u64 (p.2.num:Int),.slice A3.ab A3.nb A3.cb,.slice A3.ai A3.ni A3.ci] 131)));have HN16:=dh (aw v6 (.cells #[.slice a6 kl k6,.int .i64 p.1.kind,.int .u64 (p.1.num:Int),.slice A2.ab A2.nb A2.cb,.slice A2.ai A2.ni A2.ci,.int .i64 p.2.kind,.int .u64 (p.2.num:Int),.slice A3.ab A3.nb A3.cb,.slice A3.ai A3.ni A3.ci] 131));have HR16:=dh (HR6.out.below (al v6 (.cells #[.slice a6 kl k6,.int .i64 p.1.kind,.int .u64 (p.1.num:Int),.slice A2.ab A2.nb A2.cb,.slice A2.ai A2.ni A2.ci,.int .i64 p.2.kind,.int .u64 (p.2.num:Int),.slice A3.ab A3.nb A3.cb,.slice A3.ai A3.ni A3.ci] 131)));have hbs16:=(HB16.out.cell (p:=⟨Bs,0,none⟩) hbl).trans hb0;refine hK1.out _ _ ⟨(c4k HB16.out hly0 y0 y1 y2 y3:),(c4k HB16.out hly0 z0 z1 z2 z3:)⟩ (fun hHeld=>?_);clear hK1
        try simp only [sz]
        refine ry 17 (by kernel_rfl) rfl fun K1 hK1=>?_
        obtain ⟨v17,W17,hrun,hO17,hgr,hown⟩:=RowK.push (base:=w1.heap.size) (c:=1) (own_pure HCB.out.row HB16.out) (e:=(KE.mk (It.enc p.1) a6 k6 p A2 A3)) (b:=v6.heap.size) (T:=131) (by have:=HKL.out;subst this;exact HN16.out) (by have:=HLQ.out;omega) (by have:=HB16.out.size;omega);obtain ⟨a17,c17,ev17⟩:=og hO17;generalize (L ++ [(KE.mk (It.enc p.1) a6 k6 p A2 A3)]).length=n17 at ev17;subst ev17;have HCB17:=dh (HCB.out.push HB16.out hgr hown hO17 rfl (by have:=HKL.out;subst this;exact HR16.out) HI2.out HI3.out HPG.out HBB.out.2.1 rfl);have hne:(Value.slice va q vc).ownBlock≠some Bs:=HCB.out.own;have hb17:∀ b,b < u.heap.size→(Value.slice va q vc).ownBlock≠some b→W17.heap[b]?=u.heap[b]?:=fun b hb hn=>(hgr.block b (by have:=HB16.out.size;omega) (fun e=>hn e.symm)).trans (HB16.out.block b hb)
        have hy17:=hb17 b' hly0 (fun e=>by have:=(olt HCB.out.row e).2.1;have:=HBB.out;omega);have hx17:W17.heap[Bs]?=some (.cells #[.slice va q vc] 129 (0,0)):=(hb17 Bs hbl hne).trans HCB.out.box;have hc17:W17.cell? ⟨Bs,0,none⟩=some (.slice va q vc):=by rw [cr hx17];rfl
        have hf17:W17.frozen? ⟨Bs,0,none⟩=false:=by simp [World.frozen?,hx17]
        rw [if_pos (by rfl)];refine wp_app _ _ 129 rfl rfl rfl hrun ?_;clear hrun hO17 hgr hown hb17 hx17;refine hK1.out _ _ ⟨⟨(cu hy17).trans y0,(cu hy17).trans y1,(cu hy17).trans y2,(cu hy17).trans y3⟩,(cu hy17).trans z0,(cu hy17).trans z1,(cu hy17).trans z2,(cu hy17).trans z3⟩ (fun hHeld=>?_);clear hK1
        try simp only [sz]
        refine ry 18 (by kernel_rfl) rfl fun K1 hK1=>?_
        go_simp
        have hy18:=(Below.heap_setCell W17 ⟨Bs,0,none⟩ (.slice a17 n17 c17) b' (by show b'≠Bs;have:=HBB.out;omega)).trans hy17;refine hK1.out _ _ ⟨⟨(cu hy18).trans y0,(cu hy18).trans y1,(cu hy18).trans y2,(cu hy18).trans y3⟩,(cu hy18).trans z0,(cu hy18).trans z1,(cu hy18).trans z2,(cu hy18).trans z3⟩ (fun hHeld=>?_);clear hK1
        try simp only [sz]
        refine wpAnyH_done (by kernel_rfl) ?_ _
        try simp only [sz]
        clear hHeld;generalize W17.setCell ⟨Bs,0,none⟩ (.slice a17 n17 c17)=W18 at *;go_wp2_with fail
        go_roundw
        case rel=>exact ⟨T + 2,q + 1,_,_,by go_num,by have:=HTQ.out;omega,by have:=HT1.out;omega,HCB17.out⟩
        case measure=>simp [intOf];omega
       ·go_simp
        have HB16:=dh (pt HB6.out (al v6 (.cells #[.slice a6 kl k6,.int .i64 p.1.kind,.int .u64 (p.1.num:Int),.slice A2.ab A2.nb A2.cb,.slice A2.ai A2.ni A2.ci,.int .i64 p.2.kind,.int .u64 (p.2.num:Int),.slice A3.ab A3.nb A3.cb,.slice A3.ai A3.ni A3.ci] 131)));have HN16:=dh (aw v6 (.cells #[.slice a6 kl k6,.int .i64 p.1.kind,.int .u64 (p.1.num:Int),.slice A2.ab A2.nb A2.cb,.slice A2.ai A2.ni A2.ci,.int .i64 p.2.kind,.int .u64 (p.2.num:Int),.slice A3.ab A3.nb A3.cb,.slice A3.ai A3.ni A3.ci] 131));have HR16:=dh (HR6.out.below (al v6 (.cells #[.slice a6 kl k6,.int .i64 p.1.kind,.int .u64 (p.1.num:Int),.slice A2.ab A2.nb A2.cb,.slice A2.ai A2.ni A2.ci,.int .i64 p.2.kind,.int .u64 (p.2.num:Int),.slice A3.ab A3.nb A3.cb,.slice A3.ai A3.ni A3.ci] 131)));have hbs16:=(HB16.out.cell (p:=⟨Bs,0,none⟩) hbl).trans hb0;refine hK1.out _ _ ⟨(c4k HB16.out hly0 y0 y1 y2 y3:),(c4k HB16.out hly0 z0 z1 z2 z3:)⟩ (fun hHeld=>?_);clear hK1
        try simp only [sz]
        refine ry 0 (by kernel_rfl) rfl fun K1 hK1=>?_
        go_simp
        refine hK1.out _ _ hHeld (fun hHeld=>?_);clear hK1
        try simp only [sz]
        refine ry 17 (by kernel_rfl) rfl fun K1 hK1=>?_
        obtain ⟨v17,W17,hrun,hO17,hgr,hown⟩:=RowK.push (base:=w1.heap.size) (c:=1) (own_pure HCB.out.row HB16.out) (e:=(KE.mk (It.enc p.1) a6 k6 p A2 A3)) (b:=v6.heap.size) (T:=131) (by have:=HKL.out;subst this;exact HN16.out) (by have:=HLQ.out;omega) (by have:=HB16.out.size;omega);obtain ⟨a17,c17,ev17⟩:=og hO17;generalize (L ++ [(KE.mk (It.enc p.1) a6 k6 p A2 A3)]).length=n17 at ev17;subst ev17;have HCB17:=dh (HCB.out.push HB16.out hgr hown hO17 rfl (by have:=HKL.out;subst this;exact HR16.out) HI2.out HI3.out HPG.out HBB.out.2.1 rfl);have hne:(Value.slice va q vc).ownBlock≠some Bs:=HCB.out.own;have hb17:∀ b,b < u.heap.size→(Value.slice va q vc).ownBlock≠some b→W17.heap[b]?=u.heap[b]?:=fun b hb hn=>(hgr.block b (by have:=HB16.out.size;omega) (fun e=>hn e.symm)).trans (HB16.out.block b hb)
        have hy17:=hb17 b' hly0 (fun e=>by have:=(olt HCB.out.row e).2.1;have:=HBB.out;omega);have hx17:W17.heap[Bs]?=some (.cells #[.slice va q vc] 129 (0,0)):=(hb17 Bs hbl hne).trans HCB.out.box;have hc17:W17.cell? ⟨Bs,0,none⟩=some (.slice va q vc):=by rw [cr hx17];rfl
        have hf17:W17.frozen? ⟨Bs,0,none⟩=false:=by simp [World.frozen?,hx17]
        rw [if_pos (by rfl)];refine wp_app _ _ 129 rfl rfl rfl hrun ?_;clear hrun hO17 hgr hown hb17 hx17;refine hK1.out _ _ ⟨⟨(cu hy17).trans y0,(cu hy17).trans y1,(cu hy17).trans y2,(cu hy17).trans y3⟩,(cu hy17).trans z0,(cu hy17).trans z1,(cu hy17).trans z2,(cu hy17).trans z3⟩ (fun hHeld=>?_);clear hK1
        try simp only [sz]
        refine ry 18 (by kernel_rfl) rfl fun K1 hK1=>?_
        go_simp
        have hy18:=(Below.heap_setCell W17 ⟨Bs,0,none⟩ (.slice a17 n17 c17) b' (by show b'≠Bs;have:=HBB.out;omega)).trans hy17;refine hK1.out _ _ ⟨⟨(cu hy18).trans y0,(cu hy18).trans y1,(cu hy18).trans y2,(cu hy18).trans y3⟩,(cu hy18).trans z0,(cu hy18).trans z1,(cu hy18).trans z2,(cu hy18).trans z3⟩ (fun hHeld=>?_);clear hK1
        try simp only [sz]
        refine wpAnyH_done (by kernel_rfl) ?_ _
        try simp only [sz]
        clear hHeld;generalize W17.setCell ⟨Bs,0,none⟩ (.slice a17 n17 c17)=W18 at *;go_wp2_with fail
        go_roundw
        case rel=>exact ⟨T + 2,q + 1,_,_,by go_num,by have:=HTQ.out;omega,by have:=HT1.out;omega,HCB17.out⟩
        case measure=>simp [intOf];omega
     ·have hqz:(n:Int)≤(T:Int):=by omega
      have hlm:L.map KE.p=It.pairsK ps:=by rw [hCB.map];exact List.take_of_length_le (by have:=It.pairsK_length ps HEV.out;have:=HNI.out;omega)
      have hLl:L.length≤1000:=by have:=congrArg List.length hlm;rw [List.length_map] at this;have:=It.pairsK_length ps HEV.out;have:=HNI.out;omega
      have HS:=dh (sort_row hCB.row hLl hCB.box hCB.own (fun e he=>(hCB.each e he).2.1.imp fun b hb _=>hb.2.2));have HCB:=dh hCB;have HLM:=dh hlm;have HTN:=dh hqn;obtain ⟨va,vc,ev⟩:=og hCB.row;have HLL:=dh (rfl:L.length=L.length);obtain ⟨K0,hK0⟩:∃ K0,K0=L.length:=⟨_,rfl⟩;rw [← hK0] at ev;subst ev;have HK0:=dh hK0;have hbl:=lb hCB.box;have hb0:u.cell? ⟨Bs,0,none⟩=some (.slice va K0 vc):=by rw [cr hCB.box];rfl
      clear hCB hlm hTq hK0 HLL;go_wp2_with fail
      refine HS.out.mono ?_;rintro e w3 ⟨rfl,L',hperm,hsrt,hrow,hgr⟩;have hks:KS ps L':=⟨(hperm.map KE.p).trans (by rw [HLM.out]),hsrt,fun e he=>(HCB.out.each e (hperm.mem_iff.1 he)).1,HEV.out,List.all_eq_true.2 HV.out⟩;have hb3:Below w1.heap.size w1 w3:=bg HCB.out.bel (by have:=HCB.out.bel.size;omega) HCB.out.row hgr;have hke:∀ e ∈ L',BR (fun b=>b < w3.heap.size) w3 e.ka e.kb.length e.kb∧IR (fun b=>b < B) w3 e.p.1 e.A1∧IR (fun b=>b < B) w3 e.p.2 e.A2:=fun e he=>by
       obtain ⟨_,k1,k2,k3⟩:=HCB.out.each e (hperm.mem_iff.1 he);have hs3:=hgr.size;have hlow:∀ b,b < B→b < u.heap.size→w3.heap[b]?=u.heap[b]?:=fun b hb hl=>hgr.block b hl fun e=>by have:=(olt HCB.out.row e.symm).2.1;have:=HSZ.out;omega
       exact ⟨k1.keep fun b hb hl=>⟨hgr.block b hl (fun e=>hb.2.2 e.symm),by omega⟩,k2.keep fun b hb hl=>⟨hlow b hb hl,hb⟩,k3.keep fun b hb hl=>⟨hlow b hb hl,hb⟩⟩
      have hx3:w3.heap[Bs]?=some (.cells #[.slice va K0 vc] 129 (0,0)):=(hgr.block Bs hbl (fun e=>HCB.out.own e.symm)).trans HCB.out.box;have hKL:L'.length=K0:=by rw [HK0.out];exact hperm.length_eq
      have hK1:K0≤1000:=by rw [HK0.out];exact hLl
      have hB3:B + 1≤w3.heap.size:=by have:=hb3.size;have:=HSZ.out;omega
      have HKS:=dh hks;have HB3:=dh hb3;have HKE:=dh hke;have HX3:=dh hx3;have HKL:=dh hKL;have HROW:=dh hrow;have h3c:w3.cell? ⟨Bs,0,none⟩=some (.slice va K0 vc):=by rw [cr hx3];rfl
      have hBs3:Bs < w3.heap.size:=lb hx3;have HP4:=dh (al w3 (oc 5 0 none 0 0 none 0 0));have HN4:=dh (aw w3 (oc 5 0 none 0 0 none 0 0));have HZ4:Hid ((w3.alloc (oc 5 0 none 0 0 none 0 0)).heap.size=w3.heap.size + 1):=dh (by simp);have h4c:=(HP4.out.cell (p:=⟨Bs,0,none⟩) hBs3).trans h3c;clear hperm hsrt hrow hgr hks hb3 hke hx3 hKL hbl hb0 HS HCB h3c hqz hLl hTn;go_wp2_with fail
      generalize hw4:w3.alloc (oc 5 0 none 0 0 none 0 0)=w4 at *;generalize hBm:w3.heap.size=Bm at *;clear hw4;go_loopw [62] (fun i W=>CE B Bm w4 L' i W) (fun i _=>K0 - (intOf i).toNat)
      case atStart=>exact ⟨0,_,rfl,Nat.zero_le _,HN4.out,OutI.nil _ _ _,Below.refl _ _,fun i h=>by omega⟩
      case round=>
       obtain ⟨u9,hu9⟩:∃ u9,u9=wr:=⟨_,rfl⟩;subst hu9;obtain ⟨j,vi,rfl,hj,hmb,hO,hB4,hadj⟩:=hrel;rw [HKL.out] at hj;have hmbl:=lb hmb;have hBw9:Below w1.heap.size w1 u9:=by
        have h1:Below w1.heap.size w1 w4:=HB3.out.trans (HP4.out.mono (by rw [← hBm];exact HB3.out.size));exact h1.trans (hB4.mono (by rw [← hBm];exact HB3.out.size))
       have HNU9:=kp hBw9 HN0;have HPU:Hid (Below B w u9):=dh (HP.out.trans (hBw9.mono (by have:=HSZ.out;omega)));have HEU:=dh (HE.out.below hBw9);clear hBw9;have hbs9:=(hB4.cell (p:=⟨Bs,0,none⟩) hBs3).trans h4c;have HMB:=dh hmb;have HO:=dh hO;have HB4:=dh hB4;have HADJ:=dh hadj;obtain ⟨ia,ic,ei⟩:=og hO.row;obtain ⟨M,hM⟩:∃ M,M=((L'.take j).flatMap itE).length:=⟨_,rfl⟩;rw [← hM] at ei;subst ei;have HM:=dh hM;have hM2:M≤2000:=by rw [hM,itE_len,List.length_take];omega
       clear hmb hO hB4 hadj hM;by_cases hjk:j < K0
       ·have hjz:(j:Int) < (K0:Int):=by omega
        have hjl:j < L'.length:=by rw [HKL.out];exact hjk
        obtain ⟨g,o,c,ev,hown,hbg,hgl,hat⟩:=RowK.at HROW.out (by omega);rw [HKL.out] at ev;simp only [Value.slice.injEq,true_and] at ev;obtain ⟨rfl,rfl⟩:=ev;rw [hBm] at hgl;obtain ⟨e,he⟩:∃ e,e=L'[j]:=⟨_,rfl⟩;have hem:e ∈ L':=by rw [he];exact List.getElem_mem _
        obtain ⟨hk1,hI1,hI2⟩:=HKE.out e hem;have h49:Below Bm w3 u9:=⟨HB4.out.os.trans HP4.out.os,HB4.out.tape.trans HP4.out.tape,HB4.out.output.trans HP4.out.output,Nat.le_trans HP4.out.size HB4.out.size,fun k hk=>(HB4.out.block k hk).trans (HP4.out.block k (by omega))⟩;have h9:=(hat j hjl).below h49 hgl;rw [← he] at h9;obtain ⟨y0,⟨y1,y2,y3,y4⟩,y5,y6,y7,y8⟩:=h9;have HE1:=dh he;have HAT:=dh hat;have H49:=dh h49;have HI1:=dh (hI1.keep (w':=u9) fun b hb hl=>⟨h49.block b (by omega),hb⟩);have HI2:=dh (hI2.keep (w':=u9) fun b hb hl=>⟨h49.block b (by omega),hb⟩);have HK1:=dh (hk1.keep (w':=u9) fun b hb hl=>⟨h49.block b (by omega),hb⟩);obtain ⟨kl,hkl⟩:∃ kl,kl=e.kb.length:=⟨_,rfl⟩;rw [← hkl] at y0 HK1;have HKLN:=dh hkl;have HP8:=dh (al u9 (.cells #[.slice e.ka kl e.kc,.int .i64 e.p.1.kind,.int .u64 (e.p.1.num:Int),.slice e.A1.ab e.A1.nb e.A1.cb,.slice e.A1.ai e.A1.ni e.A1.ci,.int .i64 e.p.2.kind,.int .u64 (e.p.2.num:Int),.slice e.A2.ab e.A2.nb e.A2.cb,.slice e.A2.ai e.A2.ni e.A2.ci] 131));have HN8:=dh (aw u9 (.cells #[.slice e.ka kl e.kc,.int .i64 e.p.1.kind,.int .u64 (e.p.1.num:Int),.slice e.A1.ab e.A1.nb e.A1.cb,.slice e.A1.ai e.A1.ni e.A1.ci,.int .i64 e.p.2.kind,.int .u64 (e.p.2.num:Int),.slice e.A2.ab e.A2.nb e.A2.cb,.slice e.A2.ai e.A2.ni e.A2.ci] 131));have hly0:=lg y0;clear hat h49 hem he hk1 hI1 hI2 hkl hown hbg HROW;by_cases hj0:j=0
        ·have hz1:¬ 0 < (j:Int):=by omega
         have hz2:decide (0 < (j:Int))=false:=df hz1;have hz3:¬ 0 < j:=by omega
         have hz4:decide (0 < j)=false:=df hz3;clear hj0;have HADJ2:Hid (∀ i,i + 1 < j + 1→∀ (h2:i + 1 < L'.length),L'[i].kb≠L'[i + 1].kb):=dh fun i h=>by omega
         go_wp2_with fail
         go_quiet (fail)
         have HB9:=dh (bd HP8.out nq);have HN9:=dh (show ((u9.alloc (.cells #[.slice e.ka kl e.kc,.int .i64 e.p.1.kind,.int .u64 (e.p.1.num:Int),.slice e.A1.ab e.A1.nb e.A1.cb,.slice e.A1.ai e.A1.ni e.A1.ci,.int .i64 e.p.2.kind,.int .u64 (e.p.2.num:Int),.slice e.A2.ab e.A2.nb e.A2.cb,.slice e.A2.ai e.A2.ni e.A2.ci] 131)).drewN nq).heap[u9.heap.size]?=_ from HN8.out);generalize (u9.alloc (.cells #[.slice e.ka kl e.kc,.int .i64 e.p.1.kind,.int .u64 (e.p.1.num:Int),.slice e.A1.ab e.A1.nb e.A1.cb,.slice e.A1.ai e.A1.ni e.A1.ci,.int .i64 e.p.2.kind,.int .u64 (e.p.2.num:Int),.slice e.A2.ab e.A2.nb e.A2.cb,.slice e.A2.ai e.A2.ni e.A2.ci] 131)).drewN nq=w9 at *;have HM9:=dh ((HB9.out.block Bm hmbl).trans HMB.out);obtain ⟨m0,m1,m2,m3⟩:=cf HM9.out;have p0:=cr HN9.out 0;have p1:=cr HN9.out 1;have p2:=cr HN9.out 2;have p3:=cr HN9.out 3;have p4:=cr HN9.out 4;have p5:=cr HN9.out 5;have p6:=cr HN9.out 6;have p7:=cr HN9.out 7;have p8:=cr HN9.out 8;simp at p0 p1 p2 p3 p4 p5 p6 p7 p8;have HB10:=dh (pt HB9.out (al (w9) (.cells #[.int .i64 e.p.1.kind,.int .u64 (e.p.1.num:Int),.slice e.A1.ab e.A1.nb e.A1.cb,.slice e.A1.ai e.A1.ni e.A1.ci,.int .i64 e.p.2.kind,.int .u64 (e.p.2.num:Int),.slice e.A2.ab e.A2.nb e.A2.cb,.slice e.A2.ai e.A2.ni e.A2.ci] 26)));have HO10:=dh (HO.out.pure HB10.out);have hok:∀ b,b < B→b < u9.heap.size→okQ (fun b=>b < B) (.slice ia M ic) b:=fun b hb _=>⟨hb,fun e=>by have:=(olt HO.out.row e).2.1;omega⟩
         obtain ⟨v11,W11,hrun,hO11,hgr11,hown11⟩:=HO10.out.app (news:=itE e) (m:=2) (c:=2) (SrcI.two (e:=(e.p.1,e.A1)) (f:=(e.p.2,e.A2)) (aw (w9) (.cells #[.int .i64 e.p.1.kind,.int .u64 (e.p.1.num:Int),.slice e.A1.ab e.A1.nb e.A1.cb,.slice e.A1.ai e.A1.ni e.A1.ci,.int .i64 e.p.2.kind,.int .u64 (e.p.2.num:Int),.slice e.A2.ab e.A2.nb e.A2.cb,.slice e.A2.ai e.A2.ni e.A2.ci] 26))) (fun x hx=>by
          simp only [itE,List.mem_cons,List.not_mem_nil,or_false] at hx;rcases hx with rfl | rfl
          ·exact (HI1.out.below HB10.out).imp fun b hb _=>⟨hb,fun e=>by have:=(olt HO.out.row e).2.1;omega⟩
          ·exact (HI2.out.below HB10.out).imp fun b hb _=>⟨hb,fun e=>by have:=(olt HO.out.row e).2.1;omega⟩) (by rw [← HM.out];omega) (by have:=HB10.out.size;omega)
         have hm11:W11.heap[Bm]?=some (oc 5 0 none 0 0 ia M ic):=(hgr11.block Bm (by have:=HB10.out.size;omega) (fun e=>by have:=(olt HO.out.row e.symm).2.1;omega)).trans ((HB10.out.block Bm hmbl).trans HMB.out);obtain ⟨a11,c11,e11⟩:=og hO11.row;generalize ((L'.take j).flatMap itE ++ itE e).length=n11 at e11;subst e11;have HCE:=dh (CE.step HB4.out HB10.out HMB.out HO10.out hO11 hgr11 (by rw [List.getElem?_eq_getElem hjl,HE1.out]) (by omega) HADJ2.out);have r:=cf hm11;obtain ⟨q0,q1,q2,q3⟩:=ff hm11;have hwj:IntKind.i64.wrap ((j:Int) + 1)=((j + 1:Nat):Int):=by rw [IntWalk.i64_in _ (by omega)];omega
         clear hO11 hgr11 hown11 hm11 hok;go_wp2_with (at_builtin;refine wj rfl _ _ 24 rfl rfl rfl hrun ?_)
         clear hrun
         go_roundw
         case rel=>exact HCE.out
         case measure=>simp [intOf];omega
        ·have hz1:0 < (j:Int):=by omega
         have hz2:decide (0 < (j:Int))=true:=dt hz1;have hz3:0 < j:=by omega
         have hz4:decide (0 < j)=true:=dt hz3;obtain ⟨J,hJ⟩:∃ J,J + 1=j:=⟨j - 1,by omega⟩;have hJl:J < L'.length:=by omega
         obtain ⟨f,hf⟩:∃ f,f=L'[J]'hJl:=⟨_,rfl⟩;have hfm:f ∈ L':=by rw [hf];exact List.getElem_mem _
         obtain ⟨hkf,_,_⟩:=HKE.out f hfm;have hx0:=((HAT.out J hJl).below H49.out hgl).1;rw [← hf] at hx0;obtain ⟨kf,hkfe⟩:∃ kf,kf=f.kb.length:=⟨_,rfl⟩;rw [← hkfe] at hx0 hkf;have HKF:=dh (hkf.keep (w':=u9) (ok':=fun b=>b < Bm) fun b hb hl=>⟨H49.out.block b (by omega),hb⟩);have HF1:=dh hf;have hJw:IntKind.i64.wrap ((j:Int) - 1)=(J:Int):=by rw [IntWalk.i64_in _ (by omega)];omega
         have hJk:J < K0:=by omega
         have hJk2:(J:Int) < (K0:Int):=by omega
         have HJ:=dh hJ;clear hf hfm hkf hkfe hJ hj0;have hc8:(u9.alloc (.cells #[.slice e.ka kl e.kc,.int .i64 e.p.1.kind,.int .u64 (e.p.1.num:Int),.slice e.A1.ab e.A1.nb e.A1.cb,.slice e.A1.ai e.A1.ni e.A1.ci,.int .i64 e.p.2.kind,.int .u64 (e.p.2.num:Int),.slice e.A2.ab e.A2.nb e.A2.cb,.slice e.A2.ai e.A2.ni e.A2.ci] 131)).cell? ⟨u9.heap.size,0,none⟩=some (.slice e.ka kl e.kc):=by rw [cr HN8.out];rfl
         go_wp2_with fail
         refine wp_region_held_drew (S:=(fun w'=>w'.cell? ⟨Bs,0,none⟩=some (.slice (some ⟨g,o,none⟩) K0 vc)∧w'.cell? ⟨g,o + J * 9,none⟩=some (.slice f.ka kf f.kc)∧w'.cell? ⟨u9.heap.size,0,none⟩=some (.slice e.ka kl e.kc))) (by kernel_rfl) ⟨(HP8.out.cell (p:=⟨Bs,0,none⟩) (show Bs < u9.heap.size by omega)).trans hbs9,(HP8.out.cell (p:=⟨g,o + J * 9,none⟩) hly0).trans hx0,hc8⟩ (fun hHeld=>?_);refine tk 0 rfl hHeld ?_;simp only [Act.put,sx]
         refine tk 1 rfl hHeld ?_;simp only [Act.put,sx]
         refine tk 2 rfl hHeld ?_;simp only [Act.put,sx]
         refine tk 3 rfl hHeld ?_;simp only [Act.put,sx]
         refine tk 4 rfl hHeld ?_;simp only [Act.put,sx]
         refine tk 5 rfl hHeld ?_;simp only [Act.put,sx]
         refine tk 6 rfl hHeld ?_;simp only [Act.put,sx]
         refine tk 7 rfl hHeld ?_;simp only [Act.put,sx]
         refine tk 8 rfl hHeld ?_;simp only [Act.put,sx]
         refine tk 9 rfl hHeld ?_;simp only [Act.put,sx]
         refine tk 10 rfl hHeld ?_;simp only [Act.put,sx]
         refine ry 11 (by kernel_rfl) rfl fun K1 hK1=>?_
         go_simp
         refine (equal_any (HKF.out.below (bd HP8.out 1)) (HK1.out.below (bd HP8.out 1))).mono ?_;rintro e9 u10 ⟨rfl,rfl⟩;generalize hqq:(f.kb==e.kb)=qq;have HQ:=dh hqq;clear hqq;refine hK1.out _ _ hHeld (fun hHeld=>?_);clear hK1
         try simp only [sz]
         refine tk 12 rfl hHeld ?_;simp only [Act.put,sx]
         refine wpAnyH_done (by kernel_rfl) ?_ _
         try simp only [sz]
         clear hHeld;have HB9:=dh (bd HP8.out 1);have HN9:=dh (show ((u9.alloc (.cells #[.slice e.ka kl e.kc,.int .i64 e.p.1.kind,.int .u64 (e.p.1.num:Int),.slice e.A1.ab e.A1.nb e.A1.cb,.slice e.A1.ai e.A1.ni e.A1.ci,.int .i64 e.p.2.kind,.int .u64 (e.p.2.num:Int),.slice e.A2.ab e.A2.nb e.A2.cb,.slice e.A2.ai e.A2.ni e.A2.ci] 131)).drewN 1).heap[u9.heap.size]?=_ from HN8.out);generalize (u9.alloc (.cells #[.slice e.ka kl e.kc,.int .i64 e.p.1.kind,.int .u64 (e.p.1.num:Int),.slice e.A1.ab e.A1.nb e.A1.cb,.slice e.A1.ai e.A1.ni e.A1.ci,.int .i64 e.p.2.kind,.int .u64 (e.p.2.num:Int),.slice e.A2.ab e.A2.nb e.A2.cb,.slice e.A2.ai e.A2.ni e.A2.ci] 131)).drewN 1=w9 at *;cases qq with
         | true=>
           have HLV1:Hid (It.buildP ps=.err 7):=dh (HKS.out.twice (i:=J) (by have:=HJ.out;omega) (by
            have h1:=HF1.out;have h2:=HE1.out;have h3:=HJ.out;have h4:=eq_of_beq HQ.out;subst h3;rw [← h1,← h2];exact h4))
           have HNU:=kp HB9.out HNU9;have r:=cf HNU.out;obtain ⟨q0,q1,q2,q3⟩:=ff HNU.out;go_wp2_with fail
           clear r q0 q1 q2 q3;obtain ⟨W',hW',hp4,hs4,hb4⟩:=pq0 (W:=w9) (b:=B) (HNU.out);rw [hW'];clear hW';obtain ⟨g0,g1,g2,g3⟩:=cf hp4;refine bodyPost_ret (v:=.tuple #[vz,.int .i64 7]) (by simp [vz,results,Tryz.results60,go_sem,g0,g1,g2,g3]) rfl ?_
           show BPostC (It.buildP ps) w _ _
           rw [HLV1.out];exact ⟨rfl,by rw [hB];exact hb4 B w (HPU.out.trans (HB9.out.mono (by have:=HPU.out.size;omega))) (by omega)⟩
         | false=>
           have HADJ2:Hid (∀ i,i + 1 < j + 1→∀ (h2:i + 1 < L'.length),L'[i].kb≠L'[i + 1].kb):=dh fun i h1 h2=>by
            rcases Nat.lt_or_ge (i + 1) j with h | h
            ·exact HADJ.out i h h2
            ·have h3:=HJ.out
             obtain rfl:i=J:=by omega
             intro h4;have h5:=HF1.out;have h6:=HE1.out;subst h3;rw [← h5,← h6] at h4;have:=HQ.out;rw [h4] at this;simp at this
           have HM9:=dh ((HB9.out.block Bm hmbl).trans HMB.out);obtain ⟨m0,m1,m2,m3⟩:=cf HM9.out;have p0:=cr HN9.out 0;have p1:=cr HN9.out 1;have p2:=cr HN9.out 2;have p3:=cr HN9.out 3;have p4:=cr HN9.out 4;have p5:=cr HN9.out 5;have p6:=cr HN9.out 6;have p7:=cr HN9.out 7;have p8:=cr HN9.out 8;simp at p0 p1 p2 p3 p4 p5 p6 p7 p8;have HB10:=dh (pt HB9.out (al (w9) (.cells #[.int .i64 e.p.1.kind,.int .u64 (e.p.1.num:Int),.slice e.A1.ab e.A1.nb e.A1.cb,.slice e.A1.ai e.A1.ni e.A1.ci,.int .i64 e.p.2.kind,.int .u64 (e.p.2.num:Int),.slice e.A2.ab e.A2.nb e.A2.cb,.slice e.A2.ai e.A2.ni e.A2.ci] 26)));have HO10:=dh (HO.out.pure HB10.out);have hok:∀ b,b < B→b < u9.heap.size→okQ (fun b=>b < B) (.slice ia M ic) b:=fun b hb _=>⟨hb,fun e=>by have:=(olt HO.out.row e).2.1;omega⟩
           obtain ⟨v11,W11,hrun,hO11,hgr11,hown11⟩:=HO10.out.app (news:=itE e) (m:=2) (c:=2) (SrcI.two (e:=(e.p.1,e.A1)) (f:=(e.p.2,e.A2)) (aw (w9) (.cells #[.int .i64 e.p.1.kind,.int .u64 (e.p.1.num:Int),.slice e.A1.ab e.A1.nb e.A1.cb,.slice e.A1.ai e.A1.ni e.A1.ci,.int .i64 e.p.2.kind,.int .u64 (e.p.2.num:Int),.slice e.A2.ab e.A2.nb e.A2.cb,.slice e.A2.ai e.A2.ni e.A2.ci] 26))) (fun x hx=>by
            simp only [itE,List.mem_cons,List.not_mem_nil,or_false] at hx;rcases hx with rfl | rfl
            ·exact (HI1.out.below HB10.out).imp fun b hb _=>⟨hb,fun e=>by have:=(olt HO.out.row e).2.1;omega⟩
            ·exact (HI2.out.below HB10.out).imp fun b hb _=>⟨hb,fun e=>by have:=(olt HO.out.row e).2.1;omega⟩) (by rw [← HM.out];omega) (by have:=HB10.out.size;omega)
           have hm11:W11.heap[Bm]?=some (oc 5 0 none 0 0 ia M ic):=(hgr11.block Bm (by have:=HB10.out.size;omega) (fun e=>by have:=(olt HO.out.row e.symm).2.1;omega)).trans ((HB10.out.block Bm hmbl).trans HMB.out);obtain ⟨a11,c11,e11⟩:=og hO11.row;generalize ((L'.take j).flatMap itE ++ itE e).length=n11 at e11;subst e11;have HCE:=dh (CE.step HB4.out HB10.out HMB.out HO10.out hO11 hgr11 (by rw [List.getElem?_eq_getElem hjl,HE1.out]) (by omega) HADJ2.out);have r:=cf hm11;obtain ⟨q0,q1,q2,q3⟩:=ff hm11;have hwj:IntKind.i64.wrap ((j:Int) + 1)=((j + 1:Nat):Int):=by rw [IntWalk.i64_in _ (by omega)];omega
           clear hO11 hgr11 hown11 hm11 hok;go_wp2_with (at_builtin;refine wj rfl _ _ 24 rfl rfl rfl hrun ?_)
           clear hrun
           go_roundw
           case rel=>exact HCE.out
           case measure=>simp [intOf];omega
       ·have hjz:(K0:Int)≤(j:Int):=by omega
        have htk:L'.take j=L':=List.take_of_length_le (by have:=HKL.out;omega);have honce:=HKS.out.once (fun i h=>HADJ.out i (by have:=HKL.out;omega) h);obtain ⟨ls,hls⟩:∃ ls,ls=L'.map KE.p:=⟨_,rfl⟩;have hTL0:TL (fun b=>Bm + 1≤b∨b < B) u9 (It.flatK ls) ia M:=by rw [hls,← itE_fst,← htk];rw [htk];have:=HO.out.tl'.1;rw [htk] at this;exact this
        have hlc:M≤ic:=HO.out.tl'.2.2.1;have hlcm:ic≤9223372036854775807:=HO.out.tl'.2.2.2;rw [← hls] at honce;have HLV2:=dh honce;have HC0:=dh (IR_iff.2 ⟨by show 0 < _;omega,⟨BR.nil _ _ _,by simp,by simp⟩,hTL0,hlc,hlcm⟩:IR (fun b=>Bm + 1≤b∨b < B) u9 (.mk 5 0 [] (It.flatK ls)) ⟨none,0,0,ia,M,ic⟩);obtain ⟨m0,m1,m2,m3⟩:=cf HMB.out;clear hTL0 honce htk hls;cases hv:It.valid (.mk 5 0 [] (It.flatK ls)) with
        | false=>
          have HLV1:Hid (It.buildP ps=.err 8):=dh (HLV2.out.trans (if_pos hv));have HC:=dh (cva (.mk 5 0 [] (It.flatK ls)) ⟨none,0,0,ia,M,ic⟩ u9 _ HC0.out (HEU.out) false hv);clear hv;go_wp2_with fail
          refine HC.out.mono ?_;rintro e w6 ⟨rfl,B6⟩;have HN6:=kp B6 HNU9;have HB6:=dh (HPU.out.trans (B6.mono (by have:=HPU.out.size;omega)));clear B6 m0 m1 m2 m3;have r:=cf HN6.out;obtain ⟨q0,q1,q2,q3⟩:=ff HN6.out;go_wp2_with fail
          clear r q0 q1 q2 q3;obtain ⟨W',hW',hp4,hs4,hb4⟩:=pq0 (W:=w6) (b:=B) (HN6.out);rw [hW'];clear hW';obtain ⟨g0,g1,g2,g3⟩:=cf hp4;refine bodyPost_ret (v:=.tuple #[vz,.int .i64 8]) (by simp [vz,results,Tryz.results60,go_sem,g0,g1,g2,g3]) rfl ?_
          show BPostC (It.buildP ps) w _ _
          rw [HLV1.out];exact ⟨rfl,by rw [hB];exact hb4 B w HB6.out (by omega)⟩
        | true=>
          have HLV1:Hid (It.buildP ps=.ok (.mk 5 0 [] (It.flatK ls))):=dh (HLV2.out.trans (if_neg (by rw [hv];decide)));have hvw:=valid_wf hv;have hst:=It.st_of hvw.1 hvw.2.1;have HC:=dh (cva (.mk 5 0 [] (It.flatK ls)) ⟨none,0,0,ia,M,ic⟩ u9 _ HC0.out (HEU.out) true hv);have HCP:=dh (fun W (hW:Below u9.heap.size u9 W)=>cpc_any 256 (.mk 5 0 [] (It.flatK ls)) ⟨none,0,0,ia,M,ic⟩ W _ hvw.2.2 (by omega) hst (HC0.out.below hW));clear hv hvw hst;go_wp2_with fail
          refine HC.out.mono ?_;rintro e w6 ⟨rfl,B6⟩;have HN6:=kp B6 HNU9;have HM6:=kp B6 HMB;have HB6:=dh (HPU.out.trans (B6.mono (by have:=HPU.out.size;omega)));have HB6':=dh B6;clear B6 m0 m1 m2 m3;obtain ⟨x0,x1,x2,x3⟩:=cf HM6.out;go_wp2_with fail
          refine (HCP.out w6 HB6'.out).mono ?_;rintro e w7 ⟨A7,rfl,hI7,hB7,hCP7⟩;have HCP7:=dh hCP7;clear hCP7;simp only [It.kind,It.num];have HI7:=dh hI7;have HN7:=kp hB7 HN6;have HL7:=dh (lb HN6.out);have HB7:=dh (HB6.out.trans (hB7.mono (by have:=HB6.out.size;omega)));clear hI7 hB7 x0 x1 x2 x3;have r:=cf HN7.out;obtain ⟨q0,q1,q2,q3⟩:=ff HN7.out;obtain ⟨ab7,nb7,cb7,ai7,ni7,ci7⟩:=A7;simp only at *;go_wp2_with fail
          clear r q0 q1 q2 q3;obtain ⟨W',hW',hp4,hs4,hb4⟩:=pq (W:=w7) (b:=B) (HN7.out) (.int .i64 5) (.int .u64 0) (.slice ab7 nb7 cb7) (.slice ai7 ni7 ci7);rw [hW'];clear hW';obtain ⟨g0,g1,g2,g3⟩:=cf hp4;refine bodyPost_ret (v:=.tuple #[.agg #[.int .i64 5,.int .u64 0,.slice ab7 nb7 cb7,.slice ai7 ni7 ci7],.int .i64 0]) (by simp [results,Tryz.results60,go_sem,g0,g1,g2,g3]) rfl ?_
          show BPostC (It.buildP ps) w _ _
          rw [HLV1.out];refine ⟨⟨ab7,nb7,cb7,ai7,ni7,ci7⟩,rfl,HI7.out.keep fun b hb hl=>⟨hs4.2 b (by have:=HL7.out;omega),by rw [hB];have:=HB6.out.size;omega⟩,by rw [hB];exact hb4 B w HB7.out (by omega),HCP7.out⟩
theorem cbuild_any (ps:List It) (a:Option Addr) (n c:Nat) (w:World) (ok:Nat→Prop) (hT:TL ok w ps a n) (hn:n≤1000) (hE:Env w):
 Calls Tryz.prog 60 #[.slice a n c] w (BPost (It.buildP ps) w):=(cbuild_cap ps a n c w ok hT hn hE).mono fun _ _ h=>h.post
