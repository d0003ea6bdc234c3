/- The reference's Build. -/
import Derived.Test.YtelefkkkccilaaaDoorLJ
import Derived.Test.YtelefkkkccilaaaDoorLA
set_option linter.unusedVariables false
set_option linter.unusedSimpArgs false
namespace Go.Proofs.YtelefkkkccilaaaDoor
open Go.RowKit
set_option maxRecDepth 100000
theorem OutI.tl' {W:World} {base:Nat} {Q:Nat→Prop} {a:Option Addr} {L c:Nat} {es:List (It × Ad)} (h:OutI W base Q (.slice a L c) es):TL (fun b=>base≤b∨Q b) W (es.map (·.1)) a L∧L=es.length∧L≤c∧c≤9223372036854775807:=by
 obtain ⟨a',c',e,h1,h2,h3⟩:=h.tl;simp only [Value.slice.injEq] at e;obtain ⟨rfl,rfl,rfl⟩:=e;exact ⟨h1,rfl,h2,h3⟩
theorem OutI.src' {W:World} {base:Nat} {Q:Nat→Prop} {a:Option Addr} {L c:Nat} {es:List (It × Ad)} (h:OutI W base Q (.slice a L c) es):SrcI W a L es:=by
 obtain ⟨a',c',e,h1,h2,h3,h4⟩:=h.cells;simp only [Value.slice.injEq] at e;obtain ⟨rfl,rfl,rfl⟩:=e;exact h4
theorem flat4_append (l m:List (It × Ad)):(l ++ m).flatMap cells4=l.flatMap cells4 ++ m.flatMap cells4:=by simp
theorem SrcI.take {W:World} {a:Option Addr} {n k:Nat} {es:List (It × Ad)} (h:SrcI W a n es) (hk:k≤n):SrcI W a k (es.take k):=by
 refine ⟨by rw [List.length_take];have:=h.1;omega,fun j u hu=>h.2 j u ?_⟩
 conv=>lhs;rw [← List.take_append_drop k es,flat4_append]
 have hj:j < ((es.take k).flatMap cells4).length:=by
  rcases Nat.lt_or_ge j ((es.take k).flatMap cells4).length with h | h
  ·exact h
  ·rw [List.getElem?_eq_none h] at hu;cases hu
 rw [List.getElem?_append_left hj];exact hu
theorem SrcI.drop {W:World} {g o n k:Nat} {es:List (It × Ad)} (h:SrcI W (some ⟨g,o,none⟩) n es) (hk:k≤n):SrcI W (some ⟨g,o + k * 4,none⟩) (n - k) (es.drop k):=by
 refine ⟨by rw [List.length_drop];have:=h.1;omega,fun j u hu=>?_⟩;have h1:=h.2 (k * 4 + j) u (by
  conv=>lhs;rw [← List.take_append_drop k es,flat4_append]
  have hl:((es.take k).flatMap cells4).length=k * 4:=by rw [flat4_len,List.length_take];have:=h.1;congr 1;omega
  rw [List.getElem?_append_right (by omega),hl];rw [show k * 4 + j - k * 4=j from by omega];exact hu)
 obtain ⟨b,o',e1,e2⟩:=h1;simp only [Option.some.injEq,Addr.mk.injEq,and_true] at e1;obtain ⟨rfl,rfl⟩:=e1;exact ⟨g,o + k * 4,rfl,by rw [Nat.add_assoc];exact e2⟩
theorem SrcI.drop' {W:World} {g o n k c:Nat} {es:List (It × Ad)} (h:SrcI W (some ⟨g,o,none⟩) n es) (hk:k≤n) (hc:n≤c):SrcI W (if c=k then some ⟨g,o,none⟩ else some ⟨g,o + k * 4,none⟩) (n - k) (es.drop k):=by
 by_cases e:c=k
 ·rw [if_pos e]
  have:es.drop k=[]:=List.drop_of_length_le (by have:=h.1;omega);rw [this];exact ⟨by simp;omega,fun j u hu=>by simp at hu⟩
 ·rw [if_neg e];exact h.drop hk
theorem pairsK_get:∀ {l:List It} {q:Nat} (h:2 * q + 1 < l.length),(It.pairsK l)[q]?=some (l[2 * q],l[2 * q + 1])
 | [],q,h=>by simp at h
 | [_],q,h=>by simp at h
 | k :: v :: l,0,h=>by simp [It.pairsK]
 | k :: v :: l,q + 1,h=>by
   have:=pairsK_get (l:=l) (q:=q) (by simp at h;omega);simp only [It.pairsK,List.getElem?_cons_succ,this];congr 1
theorem sortK_succ (l:List It.KV) (q:Nat) (p:It.KV) (h:l[q]?=some p):It.sortK (l.take (q + 1))=It.insK (It.sortK (l.take q)) p:=by
 unfold It.sortK;rw [List.take_add_one,h];simp
theorem app_fresh {u W:World} {B:Nat} (hB:B≤u.heap.size) (hW:Below u.heap.size u W) {v:Value} {es news:List (It × Ad)} (hO:OutI W u.heap.size (fun b=>b < B) v es) {a:Option Addr} {m c:Nat} (hs:SrcI W a m news) (hI:∀ e ∈ news,IR (fun b=>b < B) W e.1 e.2) (hsz:es.length + m≤1000000):
 ∃ v' W',(Builtin.append_ #[29,29] 29 #[v,.slice a m c]).run Tryd.prog W=.ok v' W'∧OutI W' u.heap.size (fun b=>b < B) v' (es ++ news)∧Below u.heap.size u W'∧∀ k,k < W.heap.size→v.ownBlock≠some k→W'.heap[k]?=W.heap[k]?:=by
 obtain ⟨v',W',h1,h2,h3,_⟩:=hO.app (c:=c) hs (fun e he=>(hI e he).imp fun b hb _=>⟨hb,fun e=>by have:=olt hO.row e;omega⟩) hsz hW.size;exact ⟨v',W',h1,h2,bg hW hW.size hO.row h3,fun k hk hne=>h3.block k hk fun e=>hne e.symm⟩
theorem ins_flat {es:List (It × Ad)} {ls:List It.KV} {kk M:Nat} {p:It.KV} {A2 A3:Ad} (hes:es.map (·.1)=It.flatK ls) (hM:M=2 * kk) (hins:It.insK ls p=ls.take kk ++ p :: ls.drop kk):
 ((([] ++ es.take M) ++ [(p.1,A2),(p.2,A3)]) ++ es.drop M:List (It × Ad)).map (·.1)=It.flatK (It.insK ls p):=by
 rw [hins,It.flatK_append,List.map_append,List.map_append,List.nil_append,List.map_take,List.map_drop,hes,hM,It.flatK_take,It.flatK_drop,List.append_assoc]
 rfl
theorem SrcI.nil (w:World):SrcI w none 0 []:=⟨rfl,fun j u h=>by simp at h⟩
def VL (ps:List It) (j:Nat):Prop:=∀ q (h:q < ps.length),q < j→It.valid ps[q]=true
def KA (ls:List It.KV) (p:It.KV) (w:World) (k:Value) (W:World):Prop:=∃ kk:Nat,k=.int .i64 ((2 * kk:Nat):Int)∧It.At ls p kk∧Below w.heap.size w W
theorem pairsK_mem:∀ {l:List It} {r:It.KV},r ∈ It.pairsK l→r.1 ∈ l∧r.2 ∈ l
 | [],r,h=>by simp [It.pairsK] at h
 | [_],r,h=>by simp [It.pairsK] at h
 | k :: v :: l,r,h=>by
   simp only [It.pairsK,List.mem_cons] at h;rcases h with rfl | h
   ·simp
   ·have:=pairsK_mem h
    simp [this.1,this.2]
theorem valid_wf {x:It} (h:It.valid x=true):It.wf 8 x=true∧(It.enc x).length≤4096∧It.nodes x≤256:=by
 unfold It.valid at h;simp only [Bool.and_eq_true,decide_eq_true_eq] at h;exact ⟨h.1.1,h.2,h.1.2⟩
theorem hLS2i {ls m:List It.KV} {t:Bool} (h:It.Ins ls t) (e:ls=It.sortK m):It.Ins (It.sortK m) t:=e ▸ h
def IL (ps:List It) (n:Nat) (w w1:World) (l t i:Value) (W:World):Prop:=
 ∃ (T q:Nat) (tw:Bool) (es:List (It × Ad)) (ls:List It.KV),i=.int .i64 (T:Int)∧T=2 * q∧t=.bool tw∧T≤n∧ls=It.sortK ((It.pairsK ps).take q)∧es.map (·.1)=It.flatK ls∧It.Ins ls tw∧OutI W w.heap.size (fun b=>b < w.heap.size) l es∧(q=0→l=.slice none 0 0)∧Below w1.heap.size w1 W
def BPost (r:It.MR) (w:World) (e:Ending) (w':World):Prop:=match r with
 | .err n=>e=.returned (.tuple #[.agg #[.int .i64 0,.int .u64 0,.slice none 0 0,.slice none 0 0],.int .i64 n])∧Below w.heap.size w w'
 | .ok x=>∃ A:Ad,e=.returned (.tuple #[.agg #[.int .i64 x.kind,.int .u64 (x.num:Int),.slice A.ab A.nb A.cb,.slice A.ai A.ni A.ci],.int .i64 0])∧IR (fun b=>w.heap.size≤b) w' x A∧Below w.heap.size w w'
set_option maxHeartbeats 16000000 in
theorem rbuild_any (ps:List It) (a:Option Addr) (n c:Nat) (w:World) (ok:Nat→Prop) (hT:TL ok w ps a n) (hn:n≤1000) (hE:Env w):
 Calls Tryd.prog 38 #[.slice a n c] w (BPost (It.buildP ps) w):=by
 have HNI:Hid (n=ps.length):=dh hT.1;have P0:=al w (.cells #[.int .i64 0,.int .u64 0,.slice none 0 0,.slice none 0 0] 31);have N0:=aw w (.cells #[.int .i64 0,.int .u64 0,.slice none 0 0,.slice none 0 0] 31);have hsz:(w.alloc (.cells #[.int .i64 0,.int .u64 0,.slice none 0 0,.slice none 0 0] 31)).heap.size=w.heap.size + 1:=by simp
 have HSZ:=dh hsz;have HP:=dh P0;have HN0:=dh N0;have HE:=dh (hE.below P0);have HT:=dh ((hT.imp (ok':=fun b=>b < w.heap.size) fun b _ h=>h).below P0);clear P0 N0 hT hE hsz;by_cases hodd:n % 2=1
 ·have hb:It.buildP ps=.err 1:=by
   unfold It.buildP;rw [if_pos (by have:=HNI.out;omega)]
  rw [hb];have ho:((n:Int) % 2 !=0)=true:=by simp;omega
  have ho2:(n:Int) % 2=1:=by omega
  obtain ⟨r0,r1,r2,r3⟩:=cf HN0.out;obtain ⟨q0,q1,q2,q3⟩:=ff HN0.out;clear hodd hb;go_enter Tryd.func38,Tryd.ntmps38
  go_upto_region 1 with fail
  generalize w.alloc (.cells #[.int .i64 0,.int .u64 0,.slice none 0 0,.slice none 0 0] 31)=w1 at *;generalize hB:w.heap.size=B at *;go_wp2_with fail
  clear r0 r1 r2 r3 q0 q1 q2 q3;obtain ⟨W',hW',hp4,hs4,hb4⟩:=pq (W:=w1) (b:=B) (HN0.out) (.int .i64 0) (.int .u64 0) (.slice none 0 0) (.slice none 0 0);rw [hW'];clear hW';obtain ⟨g0,g1,g2,g3⟩:=cf hp4;refine bodyPost_ret (v:=.tuple #[.agg #[.int .i64 0,.int .u64 0,.slice none 0 0,.slice none 0 0],.int .i64 1]) (by simp [results,Tryd.results38,go_sem,g0,g1,g2,g3]) rfl ?_;exact ⟨rfl,by rw [hB];exact hb4 B w HP.out (by omega)⟩
 ·have ho:((n:Int) % 2 !=0)=false:=by simp;omega
  have ho2:(n:Int) % 2=0:=by omega
  have HEV:Hid (ps.length % 2=0):=dh (by have:=HNI.out;omega);have hn':(n:Int)≤1000:=by omega
  clear hodd;go_enter Tryd.func38,Tryd.ntmps38
  go_upto_region 1 with fail
  generalize w.alloc (.cells #[.int .i64 0,.int .u64 0,.slice none 0 0,.slice none 0 0] 31)=w1 at *;generalize hB:w.heap.size=B at *;go_wp2_with fail
  clear ho ho2;go_loopw [18] (fun i W=>∃ j:Nat,i=.int .i64 (j:Int)∧j≤n∧VL ps j∧Below w1.heap.size w1 W) (fun i _=>n - (intOf i).toNat)
  case atStart=>exact ⟨0,rfl,by omega,fun q _ h=>by omega,Below.refl _ _⟩
  case round=>
   obtain ⟨j,rfl,hj,hval,hW⟩:=hrel;by_cases hjn:j < n
   ·have hjk:j < ps.length:=by have:=HNI.out;omega
    have HN1:=dh (Below.keep hW HN0.out (lb HN0.out));obtain ⟨b',o',A',rfl,hb',⟨c0,c1,c2,c3⟩,hI'⟩:=(HT.out.below hW).2.2 j hjk;have PA:=al wr (.cells #[.int .i64 ps[j].kind,.int .u64 (ps[j].num:Int),.slice A'.ab A'.nb A'.cb,.slice A'.ai A'.ni A'.ci] 31);have HVA:=dh hval;have hlt:(j:Int) < (n:Int):=by omega
    cases hv:It.valid ps[j] with
    | false=>
      have hb:It.buildP ps=.err 1:=by
       have hall:ps.all It.valid=false:=by
        rw [Bool.eq_false_iff];intro h;have:=List.all_eq_true.1 h ps[j] (List.getElem_mem hjk);rw [hv] at this;cases this
       unfold It.buildP;rw [if_neg (by have:=HEV.out;omega),if_pos hall]
      rw [hb];have HC:=dh (rva ps[j] A' (wr.alloc (.cells #[.int .i64 ps[j].kind,.int .u64 (ps[j].num:Int),.slice A'.ab A'.nb A'.cb,.slice A'.ai A'.ni A'.ci] 31)) _ (hI'.below PA) ((HE.out.below hW).below PA) false hv);have HPA:=dh (pt hW PA);clear hI' PA hW hval hv hb;generalize ps[j]=y at *;go_wp2_with fail
      refine HC.out.mono ?_;rintro e w6 ⟨rfl,B6⟩;have HB6:=dh (HP.out.trans ((pt HPA.out B6).mono (by have:=HP.out.size;omega)));have HN6:=dh (Below.keep (pt HPA.out B6) HN0.out (lb HN0.out));clear B6 c0 c1 c2 c3;obtain ⟨r0,r1,r2,r3⟩:=cf HN6.out;obtain ⟨q0,q1,q2,q3⟩:=ff HN6.out;go_wp2_with fail
      clear r0 r1 r2 r3 q0 q1 q2 q3;obtain ⟨W',hW',hp4,hs4,hb4⟩:=pq (W:=w6) (b:=B) (HN6.out) (.int .i64 0) (.int .u64 0) (.slice none 0 0) (.slice none 0 0);rw [hW'];clear hW';obtain ⟨g0,g1,g2,g3⟩:=cf hp4;refine bodyPost_ret (v:=.tuple #[.agg #[.int .i64 0,.int .u64 0,.slice none 0 0,.slice none 0 0],.int .i64 1]) (by simp [results,Tryd.results38,go_sem,g0,g1,g2,g3]) rfl ?_;exact ⟨rfl,by rw [hB];exact hb4 B w HB6.out (by omega)⟩
    | true=>
      have HC:=dh (rva ps[j] A' (wr.alloc (.cells #[.int .i64 ps[j].kind,.int .u64 (ps[j].num:Int),.slice A'.ab A'.nb A'.cb,.slice A'.ai A'.ni A'.ci] 31)) _ (hI'.below PA) ((HE.out.below hW).below PA) true hv);have HPA:=dh (pt hW PA);have HVN:Hid (VL ps (j + 1)):=dh fun q h hq=>by
       by_cases e:q=j
       ·subst e;exact hv
       ·exact hval q h (by omega)
      clear hI' PA hW hval hv;generalize ps[j]=y at *;go_wp2_with fail
      refine HC.out.mono ?_;rintro e w6 ⟨rfl,B6⟩;have HB6:=dh (pt HPA.out B6);clear B6 c0 c1 c2 c3;go_wp2_with fail
      go_roundw
      case rel=>exact ⟨j + 1,by go_num,by omega,HVN.out,HB6.out⟩
      case measure=>simp [intOf];omega
   ·have HV:Hid (∀ x ∈ ps,It.valid x=true):=dh fun x hx=>by
     obtain ⟨q,hq,rfl⟩:=List.mem_iff_getElem.1 hx;exact hval q hq (by have:=HNI.out;omega)
    have HW:=dh hW;have hjz:¬ (j:Int) < (n:Int):=by omega
    clear hval hW;go_wp2_with fail
    go_loopw [6,7,8] (fun l t i W=>IL ps n w w1 l t i W) (fun _ _ i _=>n - (intOf i).toNat)
    case atStart=>exact ⟨0,0,false,[],[],rfl,rfl,rfl,by omega,rfl,rfl,It.Ins.nil,OutI.nil _ _ _,fun _=>rfl,HW.out⟩
    case round=>
     obtain ⟨u,hu⟩:∃ u,u=wr:=⟨_,rfl⟩;subst hu;obtain ⟨T,q,tw,es,ls,rfl,hTq,rfl,hq,hls,hes,hin,hO,hnil,hW2⟩:=hrel;clear HW;have hlq:ls.length=q:=by rw [hls,(It.sortK_perm _).length_eq,List.length_take];have:=It.pairsK_length ps HEV.out;have:=HNI.out;omega
     have hel:es.length=T:=by have:=congrArg List.length hes;rw [List.length_map,It.flatK_length] at this;omega
     by_cases hqn:T < n
     ·have hq1:T + 1 < ps.length:=by have:=HNI.out;have:=HEV.out;omega
      obtain ⟨p,hp⟩:∃ p,p=(ps[T],ps[T + 1]):=⟨_,rfl⟩;have hpg:(It.pairsK ps)[q]?=some p:=by subst hTq;rw [hp];exact pairsK_get hq1
      have hltq:(T:Int) < (n:Int):=by omega
      obtain ⟨b',o',A2,rfl,hbb,⟨y0,y1,y2,y3⟩,hI2⟩:=(HT.out.below hW2).2.2 T (by omega);obtain ⟨b5,o5,A3,eab,_,⟨z0,z1,z2,z3⟩,hI3⟩:=(HT.out.below hW2).2.2 (T + 1) hq1;cases eab
      have hpk:ps[T]=p.1:=by rw [hp]
      have hpv:ps[T + 1]=p.2:=by rw [hp]
      rw [hpk] at y0 y1 hI2;rw [hpv] at z0 z1 hI3;have hv1:=valid_wf (HV.out p.1 (by rw [← hpk];exact List.getElem_mem _));have CA2:=dh (raw_new hv1.1 hI2 (by omega));have HVL:Hid (∀ r ∈ ls,It.valid r.1=true):=dh fun r hr=>by
       rw [hls] at hr;exact HV.out _ (pairsK_mem (List.mem_of_mem_take ((It.sortK_perm _).mem_iff.1 hr))).1
      have HIN:=dh hin;have HO:=dh hO;have HES:=dh hes;have HEL:=dh hel;have HLQ:=dh hlq;have HLS:=dh hls;have HPG:=dh hpg;have HW2:=dh hW2;have HI2:=dh hI2;have HI3:=dh hI3;have hly0:=lg y0;have HTQ:=dh hTq;have hT1:T≤1000:=by omega
      have hTn:T + 1 < n:=by have:=HNI.out;omega
      obtain ⟨T1,hT1e⟩:∃ T1,T1=T + 1:=⟨_,rfl⟩;rw [← hT1e] at z0 z1 z2 z3;have hwT:IntKind.i64.wrap ((T:Int) + 1)=(T1:Int):=by rw [IntWalk.i64_in _ (by omega)];omega
      have hTz:(T1:Int) < (n:Int):=by omega
      have hTz2:T1 < n:=by omega
      clear hT1e;have HOI:=dh (fun e (he:e ∈ es)=>(hO.each e he).imp (ok':=fun b=>b < B) fun b hb _=>by have:=hb.1;omega);have hBw:B≤u.heap.size:=by have:=hW2.size;have:=HSZ.out;omega
      have HWU:=dh hW2;have hBw2:w.heap.size≤u.heap.size:=by omega
      have HVP:=dh (HV.out p.1 (by rw [← hpk];exact List.getElem_mem _));by_cases hq0:q=0
      ·obtain rfl:=hnil hq0
       have hls0:ls=[]:=List.eq_nil_of_length_eq_zero (by omega);have htw:tw=false:=by
        have:=hin.twice;rw [hls0] at this;cases tw with
        | false=>rfl
        | true=>simp at this
       subst htw;have hes0:es=[]:=List.eq_nil_of_length_eq_zero (by omega);have HL0:=dh hls0;have HE0:=dh hes0;clear hnil hpk hpv hp hv1 hpg hls hes hO hlq hW2 hI2 hI3 hq1 hqn hq hTq HOI hin hes0 hls0 hel;go_wp2_with fail
       clear hq0;go_loopw [9] (fun k W=>k=.int .i64 0∧Below u.heap.size u W) (fun _ _=>0)
       case atStart=>exact ⟨rfl,Below.refl _ _⟩
       case round=>
        obtain ⟨rfl,hW5⟩:=hrel;have HW5:=dh hW5;clear hW5;go_wp2_with fail
        go_quiet (fail)
        go_wp2_with fail
        go_quiet (fail)
        go_wp2_with fail
        rename_i nqa
        have HB5:=dh (bd (bd HW5.out nqa) nq);clear HW5;generalize (wr.drewN nqa).drewN nq=w5 at *;refine wp_region_held_drew (S:=(fun w'=>(w'.cell? ⟨b',o' + T * 4,none⟩=some (.int .i64 p.1.kind)∧w'.cell? ⟨b',o' + T * 4 + 1,none⟩=some (.int .u64 (p.1.num:Int))∧w'.cell? ⟨b',o' + T * 4 + 2,none⟩=some (.slice A2.ab A2.nb A2.cb)∧w'.cell? ⟨b',o' + T * 4 + 3,none⟩=some (.slice A2.ai A2.ni A2.ci))∧w'.cell? ⟨b',o' + T1 * 4,none⟩=some (.int .i64 p.2.kind)∧w'.cell? ⟨b',o' + T1 * 4 + 1,none⟩=some (.int .u64 (p.2.num:Int))∧w'.cell? ⟨b',o' + T1 * 4 + 2,none⟩=some (.slice A3.ab A3.nb A3.cb)∧w'.cell? ⟨b',o' + T1 * 4 + 3,none⟩=some (.slice A3.ai A3.ni A3.ci))) (by kernel_rfl) ⟨⟨(HB5.out.cell (p:=⟨b',o' + T * 4,none⟩) hly0).trans y0,(HB5.out.cell (p:=⟨b',o' + T * 4 + 1,none⟩) hly0).trans y1,(HB5.out.cell (p:=⟨b',o' + T * 4 + 2,none⟩) hly0).trans y2,(HB5.out.cell (p:=⟨b',o' + T * 4 + 3,none⟩) hly0).trans y3⟩,(HB5.out.cell (p:=⟨b',o' + T1 * 4,none⟩) hly0).trans z0,(HB5.out.cell (p:=⟨b',o' + T1 * 4 + 1,none⟩) hly0).trans z1,(HB5.out.cell (p:=⟨b',o' + T1 * 4 + 2,none⟩) hly0).trans z2,(HB5.out.cell (p:=⟨b',o' + T1 * 4 + 3,none⟩) hly0).trans z3⟩ (fun hHeld=>?_);refine tk 0 (v:=?_) rfl hHeld ?_ ?_;rotate_left
        ·intro W h;(try dsimp only at h);go_simp;try with_reducible rfl
        try simp only [Act.put,sx]
        refine tk 1 (v:=?_) rfl hHeld ?_ ?_;rotate_left
        ·intro W h;(try dsimp only at h);go_simp;try with_reducible rfl
        try simp only [Act.put,sx]
        refine tk 2 (v:=?_) rfl hHeld ?_ ?_;rotate_left
        ·intro W h;(try dsimp only at h);go_simp;try with_reducible rfl
        try simp only [Act.put,sx]
        refine tk 4 (v:=?_) rfl hHeld ?_ ?_;rotate_left
        ·intro W h;(try dsimp only at h);go_simp;try with_reducible rfl
        try simp only [Act.put,sx]
        refine tk 5 (v:=?_) rfl hHeld ?_ ?_;rotate_left
        ·intro W h;(try dsimp only at h);go_simp;try with_reducible rfl
        try simp only [Act.put,sx]
        refine tk 6 (v:=?_) rfl hHeld ?_ ?_;rotate_left
        ·intro W h;(try dsimp only at h);go_simp;try with_reducible rfl
        try simp only [Act.put,sx]
        refine tk 7 (v:=?_) rfl hHeld ?_ ?_;rotate_left
        ·intro W h;(try dsimp only at h);go_simp;try with_reducible rfl
        try simp only [Act.put,sx]
        refine tk 8 (v:=?_) rfl hHeld ?_ ?_;rotate_left
        ·intro W h;(try dsimp only at h);go_simp;try with_reducible rfl
        try simp only [Act.put,sx]
        refine tk 9 (v:=?_) rfl hHeld ?_ ?_;rotate_left
        ·intro W h;(try dsimp only at h);go_simp;try with_reducible rfl
        try simp only [Act.put,sx]
        refine tk 10 (v:=?_) rfl hHeld ?_ ?_;rotate_left
        ·intro W h;(try dsimp only at h);go_simp;try with_reducible rfl
        try simp only [Act.put,sx]
        refine tk 11 (v:=?_) rfl hHeld ?_ ?_;rotate_left
        ·intro W h;(try dsimp only at h);go_simp;try with_reducible rfl
        try simp only [Act.put,sx]
        refine tk 12 (v:=?_) rfl hHeld ?_ ?_;rotate_left
        ·intro W h;(try dsimp only at h);go_simp;try with_reducible rfl
        try simp only [Act.put,sx]
        refine tk 15 (v:=?_) rfl hHeld ?_ ?_;rotate_left
        ·intro W h;(try dsimp only at h);go_simp;try with_reducible rfl
        try simp only [Act.put,sx]
        refine tk 16 (v:=?_) rfl hHeld ?_ ?_;rotate_left
        ·intro W h;(try dsimp only at h);go_simp;try with_reducible rfl
        try simp only [Act.put,sx]
        refine tk 17 (v:=?_) rfl hHeld ?_ ?_;rotate_left
        ·intro W h;(try dsimp only at h);go_simp;try with_reducible rfl
        try simp only [Act.put,sx]
        refine wpAnyH_ready (rs:=[3,13]) (by kernel_rfl) (by simp) ?_;refine AllReadyH.cons rfl (fun K1 hK1=>?_) (AllReadyH.cons rfl (fun K1 hK1=>?_) AllReadyH.nil)
        ·obtain ⟨v3,W3,hrun,hO3,hB3,hk3⟩:=app_fresh (u:=u) (W:=w5.drew) (B:=B) (c:=0) hBw (bd HB5.out 1) (OutI.nil _ _ _) (news:=[]) (SrcI.nil _) (fun e he=>by simp at he) (by simp <;> omega)
         obtain ⟨a3,c3,e3⟩:=og hO3.row;generalize ([] ++ []:List (It × Ad)).length=n3 at e3;subst e3;have HO3:=dh hO3;have HB3:=dh hB3;rw [if_pos (by rfl)];refine wp_app _ _ 29 rfl rfl rfl hrun ?_;clear hrun hO3 hB3 hk3;refine hK1.out _ _ ⟨⟨(HB3.out.cell (p:=⟨b',o' + T * 4,none⟩) hly0).trans y0,(HB3.out.cell (p:=⟨b',o' + T * 4 + 1,none⟩) hly0).trans y1,(HB3.out.cell (p:=⟨b',o' + T * 4 + 2,none⟩) hly0).trans y2,(HB3.out.cell (p:=⟨b',o' + T * 4 + 3,none⟩) hly0).trans y3⟩,(HB3.out.cell (p:=⟨b',o' + T1 * 4,none⟩) hly0).trans z0,(HB3.out.cell (p:=⟨b',o' + T1 * 4 + 1,none⟩) hly0).trans z1,(HB3.out.cell (p:=⟨b',o' + T1 * 4 + 2,none⟩) hly0).trans z2,(HB3.out.cell (p:=⟨b',o' + T1 * 4 + 3,none⟩) hly0).trans z3⟩ (fun hHeld=>?_);clear hK1
         try simp only [Act.put,sx]
         refine wpAnyH_ready (rs:=[13]) (by kernel_rfl) (by simp) ?_;refine AllReadyH.cons rfl (fun K1 hK1=>?_) AllReadyH.nil;go_simp
         have HB13:=dh (pt HB3.out (al W3 (.cells #[.int .i64 p.1.kind,.int .u64 (p.1.num:Int),.slice A2.ab A2.nb A2.cb,.slice A2.ai A2.ni A2.ci,.int .i64 p.2.kind,.int .u64 (p.2.num:Int),.slice A3.ab A3.nb A3.cb,.slice A3.ai A3.ni A3.ci] 31)));have HN13:=dh (aw W3 (.cells #[.int .i64 p.1.kind,.int .u64 (p.1.num:Int),.slice A2.ab A2.nb A2.cb,.slice A2.ai A2.ni A2.ci,.int .i64 p.2.kind,.int .u64 (p.2.num:Int),.slice A3.ab A3.nb A3.cb,.slice A3.ai A3.ni A3.ci] 31));have HO13:=dh (HO3.out.pure (al W3 (.cells #[.int .i64 p.1.kind,.int .u64 (p.1.num:Int),.slice A2.ab A2.nb A2.cb,.slice A2.ai A2.ni A2.ci,.int .i64 p.2.kind,.int .u64 (p.2.num:Int),.slice A3.ab A3.nb A3.cb,.slice A3.ai A3.ni A3.ci] 31)));refine hK1.out _ _ ⟨⟨(HB13.out.cell (p:=⟨b',o' + T * 4,none⟩) hly0).trans y0,(HB13.out.cell (p:=⟨b',o' + T * 4 + 1,none⟩) hly0).trans y1,(HB13.out.cell (p:=⟨b',o' + T * 4 + 2,none⟩) hly0).trans y2,(HB13.out.cell (p:=⟨b',o' + T * 4 + 3,none⟩) hly0).trans y3⟩,(HB13.out.cell (p:=⟨b',o' + T1 * 4,none⟩) hly0).trans z0,(HB13.out.cell (p:=⟨b',o' + T1 * 4 + 1,none⟩) hly0).trans z1,(HB13.out.cell (p:=⟨b',o' + T1 * 4 + 2,none⟩) hly0).trans z2,(HB13.out.cell (p:=⟨b',o' + T1 * 4 + 3,none⟩) hly0).trans z3⟩ (fun hHeld=>?_);clear hK1
         try simp only [Act.put,sx]
         refine wpAnyH_ready (rs:=[14]) (by kernel_rfl) (by simp) ?_;refine AllReadyH.cons rfl (fun K1 hK1=>?_) AllReadyH.nil;obtain ⟨v14,W14,hrun,hO14,hB14,hk14⟩:=app_fresh (u:=u) (W:=(W3.alloc (.cells #[.int .i64 p.1.kind,.int .u64 (p.1.num:Int),.slice A2.ab A2.nb A2.cb,.slice A2.ai A2.ni A2.ci,.int .i64 p.2.kind,.int .u64 (p.2.num:Int),.slice A3.ab A3.nb A3.cb,.slice A3.ai A3.ni A3.ci] 31))) (B:=B) (c:=2) hBw HB13.out HO13.out (news:=[(p.1,A2),(p.2,A3)]) (SrcI.two HN13.out) (fun e he=>by
          simp only [List.mem_cons,List.not_mem_nil,or_false] at he;rcases he with rfl | rfl
          ·exact HI2.out.below HB13.out
          ·exact HI3.out.below HB13.out) (by simp <;> omega)
         obtain ⟨a14,c14,e14⟩:=og hO14.row;generalize (([] ++ []) ++ [(p.1,A2),(p.2,A3)]:List (It × Ad)).length=n14 at e14;subst e14;have HO14:=dh hO14;have HB14:=dh hB14;rw [if_pos (by rfl)];refine wp_app _ _ 29 rfl rfl rfl hrun ?_;clear hrun hO14 hB14 hk14;refine hK1.out _ _ ⟨⟨(HB14.out.cell (p:=⟨b',o' + T * 4,none⟩) hly0).trans y0,(HB14.out.cell (p:=⟨b',o' + T * 4 + 1,none⟩) hly0).trans y1,(HB14.out.cell (p:=⟨b',o' + T * 4 + 2,none⟩) hly0).trans y2,(HB14.out.cell (p:=⟨b',o' + T * 4 + 3,none⟩) hly0).trans y3⟩,(HB14.out.cell (p:=⟨b',o' + T1 * 4,none⟩) hly0).trans z0,(HB14.out.cell (p:=⟨b',o' + T1 * 4 + 1,none⟩) hly0).trans z1,(HB14.out.cell (p:=⟨b',o' + T1 * 4 + 2,none⟩) hly0).trans z2,(HB14.out.cell (p:=⟨b',o' + T1 * 4 + 3,none⟩) hly0).trans z3⟩ (fun hHeld=>?_);clear hK1
         try simp only [Act.put,sx]
         refine wpAnyH_ready (rs:=[18]) (by kernel_rfl) (by simp) ?_;refine AllReadyH.cons rfl (fun K1 hK1=>?_) AllReadyH.nil;obtain ⟨v18,W18,hrun,hO18,hB18,hk18⟩:=app_fresh (u:=u) (W:=W14) (B:=B) (c:=0) hBw HB14.out HO14.out (news:=[]) (SrcI.nil _) (fun e he=>by simp at he) (by simp <;> omega)
         have HO18:=dh hO18;have HB18:=dh hB18;rw [if_pos (by rfl)];refine wp_app _ _ 29 rfl rfl rfl hrun ?_;clear hrun hO18 hB18 hk18;refine hK1.out _ _ ⟨⟨(HB18.out.cell (p:=⟨b',o' + T * 4,none⟩) hly0).trans y0,(HB18.out.cell (p:=⟨b',o' + T * 4 + 1,none⟩) hly0).trans y1,(HB18.out.cell (p:=⟨b',o' + T * 4 + 2,none⟩) hly0).trans y2,(HB18.out.cell (p:=⟨b',o' + T * 4 + 3,none⟩) hly0).trans y3⟩,(HB18.out.cell (p:=⟨b',o' + T1 * 4,none⟩) hly0).trans z0,(HB18.out.cell (p:=⟨b',o' + T1 * 4 + 1,none⟩) hly0).trans z1,(HB18.out.cell (p:=⟨b',o' + T1 * 4 + 2,none⟩) hly0).trans z2,(HB18.out.cell (p:=⟨b',o' + T1 * 4 + 3,none⟩) hly0).trans z3⟩ (fun hHeld=>?_);clear hK1
         try simp only [Act.put,sx]
         refine tk 19 (v:=?_) rfl hHeld ?_ ?_;rotate_left
         ·intro W h;(try dsimp only at h);go_simp;try with_reducible rfl
         try simp only [Act.put,sx]
         refine wpAnyH_done (by kernel_rfl) ?_ _
         try simp only [Act.put,sx]
         clear hHeld;go_wp2_with fail
         go_roundw
         case rel=>
          have hat:It.At ls p 0:=⟨by omega,by rw [HL0.out];simp⟩;have hst:=HIN.out.step hat (by rw [HL0.out];simp);refine ⟨T + 2,q + 1,false || false,_,It.insK ls p,by go_num,by have:=HTQ.out;omega,rfl,by omega,?_,?_,HIN.out.next false ?_,by rw [hB];exact HO18.out.lower hBw,fun h=>by omega,HWU.out.trans (HB18.out.mono HWU.out.size)⟩
          ·rw [HLS.out];exact (sortK_succ _ q p HPG.out).symm
          ·have:=ins_flat (M:=0) (kk:=0) (p:=p) (A2:=A2) (A3:=A3) HES.out rfl hst
           rw [HE0.out] at this;rw [← this];simp
          ·rw [HL0.out];simp
         case measure=>simp [intOf];omega
        ·go_simp
         have HB13:=dh (bd (pt HB5.out (al w5 (.cells #[.int .i64 p.1.kind,.int .u64 (p.1.num:Int),.slice A2.ab A2.nb A2.cb,.slice A2.ai A2.ni A2.ci,.int .i64 p.2.kind,.int .u64 (p.2.num:Int),.slice A3.ab A3.nb A3.cb,.slice A3.ai A3.ni A3.ci] 31))) 1);have HN13:=dh (aw w5 (.cells #[.int .i64 p.1.kind,.int .u64 (p.1.num:Int),.slice A2.ab A2.nb A2.cb,.slice A2.ai A2.ni A2.ci,.int .i64 p.2.kind,.int .u64 (p.2.num:Int),.slice A3.ab A3.nb A3.cb,.slice A3.ai A3.ni A3.ci] 31));refine hK1.out _ _ ⟨⟨(HB13.out.cell (p:=⟨b',o' + T * 4,none⟩) hly0).trans y0,(HB13.out.cell (p:=⟨b',o' + T * 4 + 1,none⟩) hly0).trans y1,(HB13.out.cell (p:=⟨b',o' + T * 4 + 2,none⟩) hly0).trans y2,(HB13.out.cell (p:=⟨b',o' + T * 4 + 3,none⟩) hly0).trans y3⟩,(HB13.out.cell (p:=⟨b',o' + T1 * 4,none⟩) hly0).trans z0,(HB13.out.cell (p:=⟨b',o' + T1 * 4 + 1,none⟩) hly0).trans z1,(HB13.out.cell (p:=⟨b',o' + T1 * 4 + 2,none⟩) hly0).trans z2,(HB13.out.cell (p:=⟨b',o' + T1 * 4 + 3,none⟩) hly0).trans z3⟩ (fun hHeld=>?_);clear hK1
         try simp only [Act.put,sx]
         refine wpAnyH_ready (rs:=[3]) (by kernel_rfl) (by simp) ?_;refine AllReadyH.cons rfl (fun K1 hK1=>?_) AllReadyH.nil;obtain ⟨v3,W3,hrun,hO3,hB3,hk3⟩:=app_fresh (u:=u) (W:=(w5.alloc (.cells #[.int .i64 p.1.kind,.int .u64 (p.1.num:Int),.slice A2.ab A2.nb A2.cb,.slice A2.ai A2.ni A2.ci,.int .i64 p.2.kind,.int .u64 (p.2.num:Int),.slice A3.ab A3.nb A3.cb,.slice A3.ai A3.ni A3.ci] 31)).drew) (B:=B) (c:=0) hBw HB13.out (OutI.nil _ _ _) (news:=[]) (SrcI.nil _) (fun e he=>by simp at he) (by simp <;> omega)
         obtain ⟨a3,c3,e3⟩:=og hO3.row;generalize ([] ++ []:List (It × Ad)).length=n3 at e3;subst e3;have HO3:=dh hO3;have HB3:=dh hB3;have HN13b:=dh ((hk3 _ (lb HN13.out) (fun e=>by cases e)).trans HN13.out);rw [if_pos (by rfl)];refine wp_app _ _ 29 rfl rfl rfl hrun ?_;clear hrun hO3 hB3 hk3;refine hK1.out _ _ ⟨⟨(HB3.out.cell (p:=⟨b',o' + T * 4,none⟩) hly0).trans y0,(HB3.out.cell (p:=⟨b',o' + T * 4 + 1,none⟩) hly0).trans y1,(HB3.out.cell (p:=⟨b',o' + T * 4 + 2,none⟩) hly0).trans y2,(HB3.out.cell (p:=⟨b',o' + T * 4 + 3,none⟩) hly0).trans y3⟩,(HB3.out.cell (p:=⟨b',o' + T1 * 4,none⟩) hly0).trans z0,(HB3.out.cell (p:=⟨b',o' + T1 * 4 + 1,none⟩) hly0).trans z1,(HB3.out.cell (p:=⟨b',o' + T1 * 4 + 2,none⟩) hly0).trans z2,(HB3.out.cell (p:=⟨b',o' + T1 * 4 + 3,none⟩) hly0).trans z3⟩ (fun hHeld=>?_);clear hK1
         try simp only [Act.put,sx]
         refine wpAnyH_ready (rs:=[14]) (by kernel_rfl) (by simp) ?_;refine AllReadyH.cons rfl (fun K1 hK1=>?_) AllReadyH.nil;obtain ⟨v14,W14,hrun,hO14,hB14,hk14⟩:=app_fresh (u:=u) (W:=W3) (B:=B) (c:=2) hBw HB3.out HO3.out (news:=[(p.1,A2),(p.2,A3)]) (SrcI.two HN13b.out) (fun e he=>by
          simp only [List.mem_cons,List.not_mem_nil,or_false] at he;rcases he with rfl | rfl
          ·exact HI2.out.below HB3.out
          ·exact HI3.out.below HB3.out) (by simp <;> omega)
         obtain ⟨a14,c14,e14⟩:=og hO14.row;generalize (([] ++ []) ++ [(p.1,A2),(p.2,A3)]:List (It × Ad)).length=n14 at e14;subst e14;have HO14:=dh hO14;have HB14:=dh hB14;rw [if_pos (by rfl)];refine wp_app _ _ 29 rfl rfl rfl hrun ?_;clear hrun hO14 hB14 hk14;refine hK1.out _ _ ⟨⟨(HB14.out.cell (p:=⟨b',o' + T * 4,none⟩) hly0).trans y0,(HB14.out.cell (p:=⟨b',o' + T * 4 + 1,none⟩) hly0).trans y1,(HB14.out.cell (p:=⟨b',o' + T * 4 + 2,none⟩) hly0).trans y2,(HB14.out.cell (p:=⟨b',o' + T * 4 + 3,none⟩) hly0).trans y3⟩,(HB14.out.cell (p:=⟨b',o' + T1 * 4,none⟩) hly0).trans z0,(HB14.out.cell (p:=⟨b',o' + T1 * 4 + 1,none⟩) hly0).trans z1,(HB14.out.cell (p:=⟨b',o' + T1 * 4 + 2,none⟩) hly0).trans z2,(HB14.out.cell (p:=⟨b',o' + T1 * 4 + 3,none⟩) hly0).trans z3⟩ (fun hHeld=>?_);clear hK1
         try simp only [Act.put,sx]
         refine wpAnyH_ready (rs:=[18]) (by kernel_rfl) (by simp) ?_;refine AllReadyH.cons rfl (fun K1 hK1=>?_) AllReadyH.nil;obtain ⟨v18,W18,hrun,hO18,hB18,hk18⟩:=app_fresh (u:=u) (W:=W14) (B:=B) (c:=0) hBw HB14.out HO14.out (news:=[]) (SrcI.nil _) (fun e he=>by simp at he) (by simp <;> omega)
         have HO18:=dh hO18;have HB18:=dh hB18;rw [if_pos (by rfl)];refine wp_app _ _ 29 rfl rfl rfl hrun ?_;clear hrun hO18 hB18 hk18;refine hK1.out _ _ ⟨⟨(HB18.out.cell (p:=⟨b',o' + T * 4,none⟩) hly0).trans y0,(HB18.out.cell (p:=⟨b',o' + T * 4 + 1,none⟩) hly0).trans y1,(HB18.out.cell (p:=⟨b',o' + T * 4 + 2,none⟩) hly0).trans y2,(HB18.out.cell (p:=⟨b',o' + T * 4 + 3,none⟩) hly0).trans y3⟩,(HB18.out.cell (p:=⟨b',o' + T1 * 4,none⟩) hly0).trans z0,(HB18.out.cell (p:=⟨b',o' + T1 * 4 + 1,none⟩) hly0).trans z1,(HB18.out.cell (p:=⟨b',o' + T1 * 4 + 2,none⟩) hly0).trans z2,(HB18.out.cell (p:=⟨b',o' + T1 * 4 + 3,none⟩) hly0).trans z3⟩ (fun hHeld=>?_);clear hK1
         try simp only [Act.put,sx]
         refine tk 19 (v:=?_) rfl hHeld ?_ ?_;rotate_left
         ·intro W h;(try dsimp only at h);go_simp;try with_reducible rfl
         try simp only [Act.put,sx]
         refine wpAnyH_done (by kernel_rfl) ?_ _
         try simp only [Act.put,sx]
         clear hHeld;go_wp2_with fail
         go_roundw
         case rel=>
          have hat:It.At ls p 0:=⟨by omega,by rw [HL0.out];simp⟩;have hst:=HIN.out.step hat (by rw [HL0.out];simp);refine ⟨T + 2,q + 1,false || false,_,It.insK ls p,by go_num,by have:=HTQ.out;omega,rfl,by omega,?_,?_,HIN.out.next false ?_,by rw [hB];exact HO18.out.lower hBw,fun h=>by omega,HWU.out.trans (HB18.out.mono HWU.out.size)⟩
          ·rw [HLS.out];exact (sortK_succ _ q p HPG.out).symm
          ·have:=ins_flat (M:=0) (kk:=0) (p:=p) (A2:=A2) (A3:=A3) HES.out rfl hst
           rw [HE0.out] at this;rw [← this];simp
          ·rw [HL0.out];simp
         case measure=>simp [intOf];omega
      ·obtain ⟨la,lc,ev⟩:=og hO.row
       rw [hel] at ev;subst ev;have hTL0:TL (fun b=>w.heap.size≤b∨b < w.heap.size) u (It.flatK ls) la T:=by rw [← hes];exact hO.tl'.1
       have hlsl:0 < ls.length:=by omega
       obtain ⟨g,o,A0,rfl,h0x⟩:=hTL0.2.2 0 (by rw [It.flatK_length];omega);clear h0x;have HTL:=dh hTL0;have HSR:=dh hO.src';have hlc:T≤lc:=hO.tl'.2.2.1;have hlcm:lc≤9223372036854775807:=hO.tl'.2.2.2;clear hnil hpk hpv hp hv1 hpg hls hes hO hlq hW2 hI2 hI3 hq1 hq hin hel hTL0 hTq;have hqz:(T:Int) < (n:Int):=hltq;have hqd:decide ((T:Int) < (n:Int))=true:=decide_eq_true hltq;have hqd2:decide (T < n)=true:=decide_eq_true hqn;go_wp2_with fail
       go_loopw [9] (fun k W=>KA ls p u k W) (fun k _=>(intOf k).toNat)
       case atStart=>exact ⟨ls.length,congrArg (Value.int .i64) (by have h1:=HLQ.out;have h2:=HTQ.out;omega),It.At.start _ _,Below.refl _ _⟩
       case round=>
        obtain ⟨kk,rfl,hat,hW5⟩:=hrel;obtain ⟨M,hM⟩:∃ M,M=2 * kk:=⟨_,rfl⟩;rw [← hM];have hkl:=hat.le;have hMT':M≤T:=by have h1:=HLQ.out;have h2:=HTQ.out;omega
        have HM:=dh hM;have HAT:=dh hat;have HW5:=dh hW5;clear hat hW5;by_cases hk0:kk=0
        ·have hM0:¬ 0 < (M:Int):=by omega
         have hM0e:M=0:=by omega
         have hM0n:¬ 0 < M:=by omega
         have hM0d:decide (0 < (M:Int))=false:=decide_eq_false hM0;have hM0d2:decide (0 < M)=false:=decide_eq_false hM0n;have HLO:Hid (∀ r ∈ ls.take kk,It.cmpB (It.key r) (It.key p)≤0):=dh (by rw [hk0];simp);have HNM:Hid (¬ It.key p ∈ ls.map It.key):=dh (hk0 ▸ HAT.out).zero_none;clear hk0 hM hkl hM0e;go_wp2_with fail
         go_quiet (fail)
         go_upto_region 17 with fail
         have HB5:=dh (bd HW5.out nq);generalize wr.drewN nq=w5 at *;go_cut [7] from 54 to 73 (fun t W=>t=.bool (tw || decide (It.key p ∈ ls.map It.key))∧Below u.heap.size u W)
         case first=>
          cases tw with
          | true=>
            go_quiet (fail)
            go_wp2_with fail
            go_meet
            exact ⟨by simp,bd HB5.out _⟩
          | false=>
            go_quiet (fail)
            go_wp2_with fail
            go_meet
            exact ⟨by rw [decide_eq_false HNM.out];rfl,bd HB5.out _⟩
         case rest=>
          obtain ⟨rfl,hB9⟩:=hcut;have HB9:=dh hB9;clear hB9;have hMT:(M:Int)≤(T:Int):=by omega
          have hTlc:(T:Int)≤(lc:Int):=by omega
          have hMlc:(M:Int)≤(lc:Int):=by omega
          go_wp2_with fail
          refine wp_region_held_drew (S:=(fun w'=>(w'.cell? ⟨b',o' + T * 4,none⟩=some (.int .i64 p.1.kind)∧w'.cell? ⟨b',o' + T * 4 + 1,none⟩=some (.int .u64 (p.1.num:Int))∧w'.cell? ⟨b',o' + T * 4 + 2,none⟩=some (.slice A2.ab A2.nb A2.cb)∧w'.cell? ⟨b',o' + T * 4 + 3,none⟩=some (.slice A2.ai A2.ni A2.ci))∧w'.cell? ⟨b',o' + T1 * 4,none⟩=some (.int .i64 p.2.kind)∧w'.cell? ⟨b',o' + T1 * 4 + 1,none⟩=some (.int .u64 (p.2.num:Int))∧w'.cell? ⟨b',o' + T1 * 4 + 2,none⟩=some (.slice A3.ab A3.nb A3.cb)∧w'.cell? ⟨b',o' + T1 * 4 + 3,none⟩=some (.slice A3.ai A3.ni A3.ci))) (by kernel_rfl) ⟨⟨(HB9.out.cell (p:=⟨b',o' + T * 4,none⟩) hly0).trans y0,(HB9.out.cell (p:=⟨b',o' + T * 4 + 1,none⟩) hly0).trans y1,(HB9.out.cell (p:=⟨b',o' + T * 4 + 2,none⟩) hly0).trans y2,(HB9.out.cell (p:=⟨b',o' + T * 4 + 3,none⟩) hly0).trans y3⟩,(HB9.out.cell (p:=⟨b',o' + T1 * 4,none⟩) hly0).trans z0,(HB9.out.cell (p:=⟨b',o' + T1 * 4 + 1,none⟩) hly0).trans z1,(HB9.out.cell (p:=⟨b',o' + T1 * 4 + 2,none⟩) hly0).trans z2,(HB9.out.cell (p:=⟨b',o' + T1 * 4 + 3,none⟩) hly0).trans z3⟩ (fun hHeld=>?_);refine tk 0 (v:=?_) rfl hHeld ?_ ?_;rotate_left
          ·intro W h;(try dsimp only at h);go_simp;try with_reducible rfl
          try simp only [Act.put,sx]
          refine tk 1 (v:=?_) rfl hHeld ?_ ?_;rotate_left
          ·intro W h;(try dsimp only at h);go_simp;try with_reducible rfl
          try simp only [Act.put,sx]
          refine tk 2 (v:=?_) rfl hHeld ?_ ?_;rotate_left
          ·intro W h;(try dsimp only at h);go_simp;try with_reducible rfl
          try simp only [Act.put,sx]
          refine tk 4 (v:=?_) rfl hHeld ?_ ?_;rotate_left
          ·intro W h;(try dsimp only at h);go_simp;try with_reducible rfl
          try simp only [Act.put,sx]
          refine tk 5 (v:=?_) rfl hHeld ?_ ?_;rotate_left
          ·intro W h;(try dsimp only at h);go_simp;try with_reducible rfl
          try simp only [Act.put,sx]
          refine tk 6 (v:=?_) rfl hHeld ?_ ?_;rotate_left
          ·intro W h;(try dsimp only at h);go_simp;try with_reducible rfl
          try simp only [Act.put,sx]
          refine tk 7 (v:=?_) rfl hHeld ?_ ?_;rotate_left
          ·intro W h;(try dsimp only at h);go_simp;try with_reducible rfl
          try simp only [Act.put,sx]
          refine tk 8 (v:=?_) rfl hHeld ?_ ?_;rotate_left
          ·intro W h;(try dsimp only at h);go_simp;try with_reducible rfl
          try simp only [Act.put,sx]
          refine tk 9 (v:=?_) rfl hHeld ?_ ?_;rotate_left
          ·intro W h;(try dsimp only at h);go_simp;try with_reducible rfl
          try simp only [Act.put,sx]
          refine tk 10 (v:=?_) rfl hHeld ?_ ?_;rotate_left
          ·intro W h;(try dsimp only at h);go_simp;try with_reducible rfl
          try simp only [Act.put,sx]
          refine tk 11 (v:=?_) rfl hHeld ?_ ?_;rotate_left
          ·intro W h;(try dsimp only at h);go_simp;try with_reducible rfl
          try simp only [Act.put,sx]
          refine tk 12 (v:=?_) rfl hHeld ?_ ?_;rotate_left
          ·intro W h;(try dsimp only at h);go_simp;try with_reducible rfl
          try simp only [Act.put,sx]
          refine tk 15 (v:=?_) rfl hHeld ?_ ?_;rotate_left
          ·intro W h;(try dsimp only at h);go_simp;try with_reducible rfl
          try simp only [Act.put,sx]
          refine tk 16 (v:=?_) rfl hHeld ?_ ?_;rotate_left
          ·intro W h;(try dsimp only at h);go_simp;try with_reducible rfl
          try simp only [Act.put,sx]
          refine tk 17 (v:=?_) rfl hHeld ?_ ?_;rotate_left
          ·intro W h;(try dsimp only at h);go_simp;try with_reducible rfl
          try simp only [Act.put,sx]
          refine wpAnyH_ready (rs:=[3,13]) (by kernel_rfl) (by simp) ?_;refine AllReadyH.cons rfl (fun K1 hK1=>?_) (AllReadyH.cons rfl (fun K1 hK1=>?_) AllReadyH.nil)
          ·obtain ⟨v3,W3,hrun,hO3,hB3,hk3⟩:=app_fresh (u:=u) (W:=wc.drew) (B:=B) (c:=lc) hBw (bd HB9.out 1) (OutI.nil _ _ _) (news:=es.take M) (SrcI.take (k:=M) (HSR.out.keep fun q r _ hl=>(bd HB9.out 1).block q hl) (by omega)) (fun e he=>(HOI.out e (List.mem_of_mem_take he)).below (bd HB9.out 1)) (by simp <;> omega)
           obtain ⟨a3,c3,e3⟩:=og hO3.row;generalize ([] ++ es.take M:List (It × Ad)).length=n3 at e3;subst e3;have HO3:=dh hO3;have HB3:=dh hB3;rw [if_pos (by rfl)];refine wp_app _ _ 29 rfl rfl rfl hrun ?_;clear hrun hO3 hB3 hk3;refine hK1.out _ _ ⟨⟨(HB3.out.cell (p:=⟨b',o' + T * 4,none⟩) hly0).trans y0,(HB3.out.cell (p:=⟨b',o' + T * 4 + 1,none⟩) hly0).trans y1,(HB3.out.cell (p:=⟨b',o' + T * 4 + 2,none⟩) hly0).trans y2,(HB3.out.cell (p:=⟨b',o' + T * 4 + 3,none⟩) hly0).trans y3⟩,(HB3.out.cell (p:=⟨b',o' + T1 * 4,none⟩) hly0).trans z0,(HB3.out.cell (p:=⟨b',o' + T1 * 4 + 1,none⟩) hly0).trans z1,(HB3.out.cell (p:=⟨b',o' + T1 * 4 + 2,none⟩) hly0).trans z2,(HB3.out.cell (p:=⟨b',o' + T1 * 4 + 3,none⟩) hly0).trans z3⟩ (fun hHeld=>?_);clear hK1
           try simp only [Act.put,sx]
           refine wpAnyH_ready (rs:=[13]) (by kernel_rfl) (by simp) ?_;refine AllReadyH.cons rfl (fun K1 hK1=>?_) AllReadyH.nil;go_simp
           have HB13:=dh (pt HB3.out (al W3 (.cells #[.int .i64 p.1.kind,.int .u64 (p.1.num:Int),.slice A2.ab A2.nb A2.cb,.slice A2.ai A2.ni A2.ci,.int .i64 p.2.kind,.int .u64 (p.2.num:Int),.slice A3.ab A3.nb A3.cb,.slice A3.ai A3.ni A3.ci] 31)));have HN13:=dh (aw W3 (.cells #[.int .i64 p.1.kind,.int .u64 (p.1.num:Int),.slice A2.ab A2.nb A2.cb,.slice A2.ai A2.ni A2.ci,.int .i64 p.2.kind,.int .u64 (p.2.num:Int),.slice A3.ab A3.nb A3.cb,.slice A3.ai A3.ni A3.ci] 31));have HO13:=dh (HO3.out.pure (al W3 (.cells #[.int .i64 p.1.kind,.int .u64 (p.1.num:Int),.slice A2.ab A2.nb A2.cb,.slice A2.ai A2.ni A2.ci,.int .i64 p.2.kind,.int .u64 (p.2.num:Int),.slice A3.ab A3.nb A3.cb,.slice A3.ai A3.ni A3.ci] 31)));refine hK1.out _ _ ⟨⟨(HB13.out.cell (p:=⟨b',o' + T * 4,none⟩) hly0).trans y0,(HB13.out.cell (p:=⟨b',o' + T * 4 + 1,none⟩) hly0).trans y1,(HB13.out.cell (p:=⟨b',o' + T * 4 + 2,none⟩) hly0).trans y2,(HB13.out.cell (p:=⟨b',o' + T * 4 + 3,none⟩) hly0).trans y3⟩,(HB13.out.cell (p:=⟨b',o' + T1 * 4,none⟩) hly0).trans z0,(HB13.out.cell (p:=⟨b',o' + T1 * 4 + 1,none⟩) hly0).trans z1,(HB13.out.cell (p:=⟨b',o' + T1 * 4 + 2,none⟩) hly0).trans z2,(HB13.out.cell (p:=⟨b',o' + T1 * 4 + 3,none⟩) hly0).trans z3⟩ (fun hHeld=>?_);clear hK1
           try simp only [Act.put,sx]
           refine wpAnyH_ready (rs:=[14]) (by kernel_rfl) (by simp) ?_;refine AllReadyH.cons rfl (fun K1 hK1=>?_) AllReadyH.nil;obtain ⟨v14,W14,hrun,hO14,hB14,hk14⟩:=app_fresh (u:=u) (W:=(W3.alloc (.cells #[.int .i64 p.1.kind,.int .u64 (p.1.num:Int),.slice A2.ab A2.nb A2.cb,.slice A2.ai A2.ni A2.ci,.int .i64 p.2.kind,.int .u64 (p.2.num:Int),.slice A3.ab A3.nb A3.cb,.slice A3.ai A3.ni A3.ci] 31))) (B:=B) (c:=2) hBw HB13.out HO13.out (news:=[(p.1,A2),(p.2,A3)]) (SrcI.two HN13.out) (fun e he=>by
            simp only [List.mem_cons,List.not_mem_nil,or_false] at he;rcases he with rfl | rfl
            ·exact HI2.out.below HB13.out
            ·exact HI3.out.below HB13.out) (by simp <;> omega)
           obtain ⟨a14,c14,e14⟩:=og hO14.row;generalize (([] ++ es.take M) ++ [(p.1,A2),(p.2,A3)]:List (It × Ad)).length=n14 at e14;subst e14;have HO14:=dh hO14;have HB14:=dh hB14;rw [if_pos (by rfl)];refine wp_app _ _ 29 rfl rfl rfl hrun ?_;clear hrun hO14 hB14 hk14;refine hK1.out _ _ ⟨⟨(HB14.out.cell (p:=⟨b',o' + T * 4,none⟩) hly0).trans y0,(HB14.out.cell (p:=⟨b',o' + T * 4 + 1,none⟩) hly0).trans y1,(HB14.out.cell (p:=⟨b',o' + T * 4 + 2,none⟩) hly0).trans y2,(HB14.out.cell (p:=⟨b',o' + T * 4 + 3,none⟩) hly0).trans y3⟩,(HB14.out.cell (p:=⟨b',o' + T1 * 4,none⟩) hly0).trans z0,(HB14.out.cell (p:=⟨b',o' + T1 * 4 + 1,none⟩) hly0).trans z1,(HB14.out.cell (p:=⟨b',o' + T1 * 4 + 2,none⟩) hly0).trans z2,(HB14.out.cell (p:=⟨b',o' + T1 * 4 + 3,none⟩) hly0).trans z3⟩ (fun hHeld=>?_);clear hK1
           try simp only [Act.put,sx]
           refine wpAnyH_ready (rs:=[18]) (by kernel_rfl) (by simp) ?_;refine AllReadyH.cons rfl (fun K1 hK1=>?_) AllReadyH.nil;obtain ⟨v18,W18,hrun,hO18,hB18,hk18⟩:=app_fresh (u:=u) (W:=W14) (B:=B) (c:=lc - M) hBw HB14.out HO14.out (news:=es.drop M) (SrcI.drop' (k:=M) (c:=lc) (HSR.out.keep fun q r _ hl=>HB14.out.block q hl) (by omega) (by omega)) (fun e he=>(HOI.out e (List.mem_of_mem_drop he)).below HB14.out) (by simp <;> omega)
           have HO18:=dh hO18;have HB18:=dh hB18;rw [if_pos (by rfl)];refine wp_app _ _ 29 rfl rfl rfl hrun ?_;clear hrun hO18 hB18 hk18;refine hK1.out _ _ ⟨⟨(HB18.out.cell (p:=⟨b',o' + T * 4,none⟩) hly0).trans y0,(HB18.out.cell (p:=⟨b',o' + T * 4 + 1,none⟩) hly0).trans y1,(HB18.out.cell (p:=⟨b',o' + T * 4 + 2,none⟩) hly0).trans y2,(HB18.out.cell (p:=⟨b',o' + T * 4 + 3,none⟩) hly0).trans y3⟩,(HB18.out.cell (p:=⟨b',o' + T1 * 4,none⟩) hly0).trans z0,(HB18.out.cell (p:=⟨b',o' + T1 * 4 + 1,none⟩) hly0).trans z1,(HB18.out.cell (p:=⟨b',o' + T1 * 4 + 2,none⟩) hly0).trans z2,(HB18.out.cell (p:=⟨b',o' + T1 * 4 + 3,none⟩) hly0).trans z3⟩ (fun hHeld=>?_);clear hK1
           try simp only [Act.put,sx]
           refine tk 19 (v:=?_) rfl hHeld ?_ ?_;rotate_left
           ·intro W h;(try dsimp only at h);go_simp;try with_reducible rfl
           try simp only [Act.put,sx]
           refine wpAnyH_done (by kernel_rfl) ?_ _
           try simp only [Act.put,sx]
           clear hHeld;go_wp2_with fail
           go_roundw
           case rel=>
            have hst:=HIN.out.step HAT.out HLO.out;refine ⟨T + 2,q + 1,_,_,It.insK ls p,by go_num,by have:=HTQ.out;omega,rfl,by omega,?_,ins_flat HES.out HM.out hst,HIN.out.next _ (by simp),by rw [hB];exact HO18.out.lower hBw,fun h=>by omega,HWU.out.trans (HB18.out.mono HWU.out.size)⟩;rw [HLS.out];exact (sortK_succ _ q p HPG.out).symm
           case measure=>simp [intOf];omega
          ·go_simp
           have HB13:=dh (bd (pt HB9.out (al wc (.cells #[.int .i64 p.1.kind,.int .u64 (p.1.num:Int),.slice A2.ab A2.nb A2.cb,.slice A2.ai A2.ni A2.ci,.int .i64 p.2.kind,.int .u64 (p.2.num:Int),.slice A3.ab A3.nb A3.cb,.slice A3.ai A3.ni A3.ci] 31))) 1);have HN13:=dh (aw wc (.cells #[.int .i64 p.1.kind,.int .u64 (p.1.num:Int),.slice A2.ab A2.nb A2.cb,.slice A2.ai A2.ni A2.ci,.int .i64 p.2.kind,.int .u64 (p.2.num:Int),.slice A3.ab A3.nb A3.cb,.slice A3.ai A3.ni A3.ci] 31));refine hK1.out _ _ ⟨⟨(HB13.out.cell (p:=⟨b',o' + T * 4,none⟩) hly0).trans y0,(HB13.out.cell (p:=⟨b',o' + T * 4 + 1,none⟩) hly0).trans y1,(HB13.out.cell (p:=⟨b',o' + T * 4 + 2,none⟩) hly0).trans y2,(HB13.out.cell (p:=⟨b',o' + T * 4 + 3,none⟩) hly0).trans y3⟩,(HB13.out.cell (p:=⟨b',o' + T1 * 4,none⟩) hly0).trans z0,(HB13.out.cell (p:=⟨b',o' + T1 * 4 + 1,none⟩) hly0).trans z1,(HB13.out.cell (p:=⟨b',o' + T1 * 4 + 2,none⟩) hly0).trans z2,(HB13.out.cell (p:=⟨b',o' + T1 * 4 + 3,none⟩) hly0).trans z3⟩ (fun hHeld=>?_);clear hK1
           try simp only [Act.put,sx]
           refine wpAnyH_ready (rs:=[3]) (by kernel_rfl) (by simp) ?_;refine AllReadyH.cons rfl (fun K1 hK1=>?_) AllReadyH.nil;obtain ⟨v3,W3,hrun,hO3,hB3,hk3⟩:=app_fresh (u:=u) (W:=(wc.alloc (.cells #[.int .i64 p.1.kind,.int .u64 (p.1.num:Int),.slice A2.ab A2.nb A2.cb,.slice A2.ai A2.ni A2.ci,.int .i64 p.2.kind,.int .u64 (p.2.num:Int),.slice A3.ab A3.nb A3.cb,.slice A3.ai A3.ni A3.ci] 31)).drew) (B:=B) (c:=lc) hBw HB13.out (OutI.nil _ _ _) (news:=es.take M) (SrcI.take (k:=M) (HSR.out.keep fun q r _ hl=>HB13.out.block q hl) (by omega)) (fun e he=>(HOI.out e (List.mem_of_mem_take he)).below HB13.out) (by simp <;> omega)
           obtain ⟨a3,c3,e3⟩:=og hO3.row;generalize ([] ++ es.take M:List (It × Ad)).length=n3 at e3;subst e3;have HO3:=dh hO3;have HB3:=dh hB3;have HN13b:=dh ((hk3 _ (lb HN13.out) (fun e=>by cases e)).trans HN13.out);rw [if_pos (by rfl)];refine wp_app _ _ 29 rfl rfl rfl hrun ?_;clear hrun hO3 hB3 hk3;refine hK1.out _ _ ⟨⟨(HB3.out.cell (p:=⟨b',o' + T * 4,none⟩) hly0).trans y0,(HB3.out.cell (p:=⟨b',o' + T * 4 + 1,none⟩) hly0).trans y1,(HB3.out.cell (p:=⟨b',o' + T * 4 + 2,none⟩) hly0).trans y2,(HB3.out.cell (p:=⟨b',o' + T * 4 + 3,none⟩) hly0).trans y3⟩,(HB3.out.cell (p:=⟨b',o' + T1 * 4,none⟩) hly0).trans z0,(HB3.out.cell (p:=⟨b',o' + T1 * 4 + 1,none⟩) hly0).trans z1,(HB3.out.cell (p:=⟨b',o' + T1 * 4 + 2,none⟩) hly0).trans z2,(HB3.out.cell (p:=⟨b',o' + T1 * 4 + 3,none⟩) hly0).trans z3⟩ (fun hHeld=>?_);clear hK1
           try simp only [Act.put,sx]
           refine wpAnyH_ready (rs:=[14]) (by kernel_rfl) (by simp) ?_;refine AllReadyH.cons rfl (fun K1 hK1=>?_) AllReadyH.nil;obtain ⟨v14,W14,hrun,hO14,hB14,hk14⟩:=app_fresh (u:=u) (W:=W3) (B:=B) (c:=2) hBw HB3.out HO3.out (news:=[(p.1,A2),(p.2,A3)]) (SrcI.two HN13b.out) (fun e he=>by
            simp only [List.mem_cons,List.not_mem_nil,or_false] at he;rcases he with rfl | rfl
            ·exact HI2.out.below HB3.out
            ·exact HI3.out.below HB3.out) (by simp <;> omega)
           obtain ⟨a14,c14,e14⟩:=og hO14.row;generalize (([] ++ es.take M) ++ [(p.1,A2),(p.2,A3)]:List (It × Ad)).length=n14 at e14;subst e14;have HO14:=dh hO14;have HB14:=dh hB14;rw [if_pos (by rfl)];refine wp_app _ _ 29 rfl rfl rfl hrun ?_;clear hrun hO14 hB14 hk14;refine hK1.out _ _ ⟨⟨(HB14.out.cell (p:=⟨b',o' + T * 4,none⟩) hly0).trans y0,(HB14.out.cell (p:=⟨b',o' + T * 4 + 1,none⟩) hly0).trans y1,(HB14.out.cell (p:=⟨b',o' + T * 4 + 2,none⟩) hly0).trans y2,(HB14.out.cell (p:=⟨b',o' + T * 4 + 3,none⟩) hly0).trans y3⟩,(HB14.out.cell (p:=⟨b',o' + T1 * 4,none⟩) hly0).trans z0,(HB14.out.cell (p:=⟨b',o' + T1 * 4 + 1,none⟩) hly0).trans z1,(HB14.out.cell (p:=⟨b',o' + T1 * 4 + 2,none⟩) hly0).trans z2,(HB14.out.cell (p:=⟨b',o' + T1 * 4 + 3,none⟩) hly0).trans z3⟩ (fun hHeld=>?_);clear hK1
           try simp only [Act.put,sx]
           refine wpAnyH_ready (rs:=[18]) (by kernel_rfl) (by simp) ?_;refine AllReadyH.cons rfl (fun K1 hK1=>?_) AllReadyH.nil;obtain ⟨v18,W18,hrun,hO18,hB18,hk18⟩:=app_fresh (u:=u) (W:=W14) (B:=B) (c:=lc - M) hBw HB14.out HO14.out (news:=es.drop M) (SrcI.drop' (k:=M) (c:=lc) (HSR.out.keep fun q r _ hl=>HB14.out.block q hl) (by omega) (by omega)) (fun e he=>(HOI.out e (List.mem_of_mem_drop he)).below HB14.out) (by simp <;> omega)
           have HO18:=dh hO18;have HB18:=dh hB18;rw [if_pos (by rfl)];refine wp_app _ _ 29 rfl rfl rfl hrun ?_;clear hrun hO18 hB18 hk18;refine hK1.out _ _ ⟨⟨(HB18.out.cell (p:=⟨b',o' + T * 4,none⟩) hly0).trans y0,(HB18.out.cell (p:=⟨b',o' + T * 4 + 1,none⟩) hly0).trans y1,(HB18.out.cell (p:=⟨b',o' + T * 4 + 2,none⟩) hly0).trans y2,(HB18.out.cell (p:=⟨b',o' + T * 4 + 3,none⟩) hly0).trans y3⟩,(HB18.out.cell (p:=⟨b',o' + T1 * 4,none⟩) hly0).trans z0,(HB18.out.cell (p:=⟨b',o' + T1 * 4 + 1,none⟩) hly0).trans z1,(HB18.out.cell (p:=⟨b',o' + T1 * 4 + 2,none⟩) hly0).trans z2,(HB18.out.cell (p:=⟨b',o' + T1 * 4 + 3,none⟩) hly0).trans z3⟩ (fun hHeld=>?_);clear hK1
           try simp only [Act.put,sx]
           refine tk 19 (v:=?_) rfl hHeld ?_ ?_;rotate_left
           ·intro W h;(try dsimp only at h);go_simp;try with_reducible rfl
           try simp only [Act.put,sx]
           refine wpAnyH_done (by kernel_rfl) ?_ _
           try simp only [Act.put,sx]
           clear hHeld;go_wp2_with fail
           go_roundw
           case rel=>
            have hst:=HIN.out.step HAT.out HLO.out;refine ⟨T + 2,q + 1,_,_,It.insK ls p,by go_num,by have:=HTQ.out;omega,rfl,by omega,?_,ins_flat HES.out HM.out hst,HIN.out.next _ (by simp),by rw [hB];exact HO18.out.lower hBw,fun h=>by omega,HWU.out.trans (HB18.out.mono HWU.out.size)⟩;rw [HLS.out];exact (sortK_succ _ q p HPG.out).symm
           case measure=>simp [intOf];omega
        ·have hM0:0 < (M:Int):=by omega
         have hM0n:0 < M:=by omega
         have hM0d:decide (0 < (M:Int))=true:=decide_eq_true hM0;have hM0d2:decide (0 < M)=true:=decide_eq_true hM0n;have hks:kk - 1 < ls.length:=by omega
         obtain ⟨r,hr⟩:∃ r,r=ls[kk - 1]:=⟨_,rfl⟩;obtain ⟨J,hJ⟩:∃ J,J=2 * (kk - 1):=⟨_,rfl⟩;obtain ⟨g5,o5,A1,eab,_,⟨x0,x1,x2,x3⟩,hI1⟩:=HTL.out.2.2 J (by rw [It.flatK_length];omega);cases eab
         have hfl:(It.flatK ls)[J]'(by rw [It.flatK_length];omega)=r.1:=by
          have h1:=(It.flatK_get ls (kk - 1) hks).1;rw [← hJ,List.getElem?_eq_getElem (by rw [It.flatK_length];omega)] at h1;rw [hr];exact Option.some.inj h1
         rw [hfl] at x0 x1 hI1;have hrm:r ∈ ls:=by rw [hr];exact List.getElem_mem _
         have hv1:=valid_wf (HVL.out r hrm);have CA1:=dh (raw_new hv1.1 hI1 (by omega));have HCK:Hid (ls[kk - 1]=r):=dh hr.symm;have hs0:IntKind.i64.wrap ((M:Int) - 2)=(J:Int):=by rw [IntWalk.i64_in _ (by omega)];omega
         have hJT:(J:Int) < (T:Int):=by omega
         have hJT2:J < T:=by omega
         have hlx0:=lg x0;have HKK:Hid (M=2 * kk∧J=2 * (kk - 1)∧0 < kk):=dh ⟨hM,hJ,by omega⟩;have HAT1:Hid (It.At ls p (kk - 1 + 1)):=dh (by rw [show kk - 1 + 1=kk from by omega];exact HAT.out);clear hfl hI1 hr hrm hv1 hJ hM hkl hk0;go_wp2_with fail
         refine wp_region_held_drew (S:=(fun w'=>(w'.cell? ⟨g,o + J * 4,none⟩=some (.int .i64 r.1.kind)∧w'.cell? ⟨g,o + J * 4 + 1,none⟩=some (.int .u64 (r.1.num:Int))∧w'.cell? ⟨g,o + J * 4 + 2,none⟩=some (.slice A1.ab A1.nb A1.cb)∧w'.cell? ⟨g,o + J * 4 + 3,none⟩=some (.slice A1.ai A1.ni A1.ci))∧w'.cell? ⟨b',o' + T * 4,none⟩=some (.int .i64 p.1.kind)∧w'.cell? ⟨b',o' + T * 4 + 1,none⟩=some (.int .u64 (p.1.num:Int))∧w'.cell? ⟨b',o' + T * 4 + 2,none⟩=some (.slice A2.ab A2.nb A2.cb)∧w'.cell? ⟨b',o' + T * 4 + 3,none⟩=some (.slice A2.ai A2.ni A2.ci))) (by kernel_rfl) ⟨⟨(HW5.out.cell (p:=⟨g,o + J * 4,none⟩) hlx0).trans x0,(HW5.out.cell (p:=⟨g,o + J * 4 + 1,none⟩) hlx0).trans x1,(HW5.out.cell (p:=⟨g,o + J * 4 + 2,none⟩) hlx0).trans x2,(HW5.out.cell (p:=⟨g,o + J * 4 + 3,none⟩) hlx0).trans x3⟩,(HW5.out.cell (p:=⟨b',o' + T * 4,none⟩) hly0).trans y0,(HW5.out.cell (p:=⟨b',o' + T * 4 + 1,none⟩) hly0).trans y1,(HW5.out.cell (p:=⟨b',o' + T * 4 + 2,none⟩) hly0).trans y2,(HW5.out.cell (p:=⟨b',o' + T * 4 + 3,none⟩) hly0).trans y3⟩ (fun hHeld=>?_);refine tk 0 (v:=?_) rfl hHeld ?_ ?_;rotate_left
         ·intro W h;(try dsimp only at h);go_simp;try with_reducible rfl
         try simp only [Act.put,sx]
         refine tk 1 (v:=?_) rfl hHeld ?_ ?_;rotate_left
         ·intro W h;(try dsimp only at h);go_simp;try with_reducible rfl
         try simp only [Act.put,sx]
         refine tk 2 (v:=?_) rfl hHeld ?_ ?_;rotate_left
         ·intro W h;(try dsimp only at h);go_simp;try with_reducible rfl
         try simp only [Act.put,sx]
         refine tk 3 (v:=?_) rfl hHeld ?_ ?_;rotate_left
         ·intro W h;(try dsimp only at h);go_simp;try with_reducible rfl
         try simp only [Act.put,sx]
         refine tk 4 (v:=?_) rfl hHeld ?_ ?_;rotate_left
         ·intro W h;(try dsimp only at h);go_simp;try with_reducible rfl
         try simp only [Act.put,sx]
         refine tk 5 (v:=?_) rfl hHeld ?_ ?_;rotate_left
         ·intro W h;(try dsimp only at h);go_simp;try with_reducible rfl
         try simp only [Act.put,sx]
         refine tk 6 (v:=?_) rfl hHeld ?_ ?_;rotate_left
         ·intro W h;(try dsimp only at h);go_simp;try with_reducible rfl
         try simp only [Act.put,sx]
         refine tk 7 (v:=?_) rfl hHeld ?_ ?_;rotate_left
         ·intro W h;(try dsimp only at h);go_simp;try with_reducible rfl
         try simp only [Act.put,sx]
         refine tk 9 (v:=?_) rfl hHeld ?_ ?_;rotate_left
         ·intro W h;(try dsimp only at h);go_simp;try with_reducible rfl
         try simp only [Act.put,sx]
         refine tk 10 (v:=?_) rfl hHeld ?_ ?_;rotate_left
         ·intro W h;(try dsimp only at h);go_simp;try with_reducible rfl
         try simp only [Act.put,sx]
         refine tk 11 (v:=?_) rfl hHeld ?_ ?_;rotate_left
         ·intro W h;(try dsimp only at h);go_simp;try with_reducible rfl
         try simp only [Act.put,sx]
         refine tk 12 (v:=?_) rfl hHeld ?_ ?_;rotate_left
         ·intro W h;(try dsimp only at h);go_simp;try with_reducible rfl
         try simp only [Act.put,sx]
         refine wpAnyH_ready (rs:=[8]) (by kernel_rfl) (by simp) ?_;refine AllReadyH.cons rfl (fun K1 hK1=>?_) AllReadyH.nil;go_simp
         refine (CA1.out _ (bd HW5.out 1)).mono ?_;rintro e v6 g6;obtain ⟨a6,k6,rfl,t1,R6,t2,t3,B6⟩:=g6.open;clear t1 t2 t3 g6;have HB6:=dh (pt (bd HW5.out 1) B6);have HR6:=dh R6;clear R6 B6;refine hK1.out _ _ ⟨⟨(HB6.out.cell (p:=⟨g,o + J * 4,none⟩) hlx0).trans x0,(HB6.out.cell (p:=⟨g,o + J * 4 + 1,none⟩) hlx0).trans x1,(HB6.out.cell (p:=⟨g,o + J * 4 + 2,none⟩) hlx0).trans x2,(HB6.out.cell (p:=⟨g,o + J * 4 + 3,none⟩) hlx0).trans x3⟩,(HB6.out.cell (p:=⟨b',o' + T * 4,none⟩) hly0).trans y0,(HB6.out.cell (p:=⟨b',o' + T * 4 + 1,none⟩) hly0).trans y1,(HB6.out.cell (p:=⟨b',o' + T * 4 + 2,none⟩) hly0).trans y2,(HB6.out.cell (p:=⟨b',o' + T * 4 + 3,none⟩) hly0).trans y3⟩ (fun hHeld=>?_);clear hK1
         try simp only [Act.put,sx]
         refine wpAnyH_ready (rs:=[13]) (by kernel_rfl) (by simp) ?_;refine AllReadyH.cons rfl (fun K1 hK1=>?_) AllReadyH.nil;go_simp
         refine (CA2.out _ (HB6.out)).mono ?_;rintro e v7 g7;obtain ⟨a7,k7,rfl,t1,R7,t2,t3,B7⟩:=g7.open;clear t1 t2 t3 g7;have HB7:=dh (pt (HB6.out) B7);have HR7:=dh R7;have HR6':=dh (HR6.out.below B7);clear R7 B7;refine hK1.out _ _ ⟨⟨(HB7.out.cell (p:=⟨g,o + J * 4,none⟩) hlx0).trans x0,(HB7.out.cell (p:=⟨g,o + J * 4 + 1,none⟩) hlx0).trans x1,(HB7.out.cell (p:=⟨g,o + J * 4 + 2,none⟩) hlx0).trans x2,(HB7.out.cell (p:=⟨g,o + J * 4 + 3,none⟩) hlx0).trans x3⟩,(HB7.out.cell (p:=⟨b',o' + T * 4,none⟩) hly0).trans y0,(HB7.out.cell (p:=⟨b',o' + T * 4 + 1,none⟩) hly0).trans y1,(HB7.out.cell (p:=⟨b',o' + T * 4 + 2,none⟩) hly0).trans y2,(HB7.out.cell (p:=⟨b',o' + T * 4 + 3,none⟩) hly0).trans y3⟩ (fun hHeld=>?_);clear hK1
         try simp only [Act.put,sx]
         refine wpAnyH_ready (rs:=[14]) (by kernel_rfl) (by simp) ?_;refine AllReadyH.cons rfl (fun K1 hK1=>?_) AllReadyH.nil;go_simp
         refine (rcompare_any HR6'.out HR7.out _ rfl).mono ?_;rintro e u9 ⟨rfl,q5,rfl⟩;have HB8:=dh (bd HB7.out q5);refine hK1.out _ _ ⟨⟨(HB8.out.cell (p:=⟨g,o + J * 4,none⟩) hlx0).trans x0,(HB8.out.cell (p:=⟨g,o + J * 4 + 1,none⟩) hlx0).trans x1,(HB8.out.cell (p:=⟨g,o + J * 4 + 2,none⟩) hlx0).trans x2,(HB8.out.cell (p:=⟨g,o + J * 4 + 3,none⟩) hlx0).trans x3⟩,(HB8.out.cell (p:=⟨b',o' + T * 4,none⟩) hly0).trans y0,(HB8.out.cell (p:=⟨b',o' + T * 4 + 1,none⟩) hly0).trans y1,(HB8.out.cell (p:=⟨b',o' + T * 4 + 2,none⟩) hly0).trans y2,(HB8.out.cell (p:=⟨b',o' + T * 4 + 3,none⟩) hly0).trans y3⟩ (fun hHeld=>?_);clear hK1
         try simp only [Act.put,sx]
         refine tk 15 (v:=?_) rfl hHeld ?_ ?_;rotate_left
         ·intro W h;(try dsimp only at h);go_simp;try with_reducible rfl
         try simp only [Act.put,sx]
         refine tk 16 (v:=?_) rfl hHeld ?_ ?_;rotate_left
         ·intro W h;(try dsimp only at h);go_simp;try with_reducible rfl
         try simp only [Act.put,sx]
         refine wpAnyH_done (by kernel_rfl) ?_ _
         try simp only [Act.put,sx]
         clear hHeld;by_cases hcc:0 < It.cmpB (It.enc r.1) (It.enc p.1)
         ·have HCC:=dh hcc
          clear hcc;have hcz:=HCC.out;have HDN:Hid (It.At ls p (kk - 1)):=dh (HAT1.out.down hks (by rw [HCK.out];exact HCC.out));generalize It.cmpB (It.enc r.1) (It.enc p.1)=C at hcz ⊢;go_wp2_with fail
          go_roundw
          case rel=>exact ⟨kk - 1,congrArg (Value.int .i64) (by have:=HKK.out;omega),HDN.out,HB8.out⟩
          case measure=>have:=HKK.out;simp [intOf];omega
         ·have HNC:Hid (¬ 0 < It.cmpB (It.key ls[kk - 1]) (It.key p)):=dh (by rw [HCK.out];exact hcc)
          have HLO:Hid (∀ r ∈ ls.take kk,It.cmpB (It.key r) (It.key p)≤0):=dh (by
           have:=HIN.out.low hks HNC.out;rw [show kk - 1 + 1=kk from by have:=HKK.out;omega] at this;exact this)
          have HCC:=dh hcc;clear hcc;have hcz:=HCC.out;generalize hC9:It.cmpB (It.enc r.1) (It.enc p.1)=C at hcz ⊢;clear hC9;go_upto_region 17 with fail
          generalize v7.drewN q5=w5 at *;go_cut [7] from 54 to 73 (fun t W=>t=.bool (tw || decide (It.key p ∈ ls.map It.key))∧Below u.heap.size u W)
          case first=>
           cases tw with
           | true=>
             go_quiet (fail)
             go_wp2_with fail
             go_meet
             exact ⟨by simp,bd HB8.out _⟩
           | false=>
             clear hcz;refine wp_region_held_drew (S:=(fun w'=>(w'.cell? ⟨g,o + J * 4,none⟩=some (.int .i64 r.1.kind)∧w'.cell? ⟨g,o + J * 4 + 1,none⟩=some (.int .u64 (r.1.num:Int))∧w'.cell? ⟨g,o + J * 4 + 2,none⟩=some (.slice A1.ab A1.nb A1.cb)∧w'.cell? ⟨g,o + J * 4 + 3,none⟩=some (.slice A1.ai A1.ni A1.ci))∧w'.cell? ⟨b',o' + T * 4,none⟩=some (.int .i64 p.1.kind)∧w'.cell? ⟨b',o' + T * 4 + 1,none⟩=some (.int .u64 (p.1.num:Int))∧w'.cell? ⟨b',o' + T * 4 + 2,none⟩=some (.slice A2.ab A2.nb A2.cb)∧w'.cell? ⟨b',o' + T * 4 + 3,none⟩=some (.slice A2.ai A2.ni A2.ci))) (by kernel_rfl) ⟨⟨(HB8.out.cell (p:=⟨g,o + J * 4,none⟩) hlx0).trans x0,(HB8.out.cell (p:=⟨g,o + J * 4 + 1,none⟩) hlx0).trans x1,(HB8.out.cell (p:=⟨g,o + J * 4 + 2,none⟩) hlx0).trans x2,(HB8.out.cell (p:=⟨g,o + J * 4 + 3,none⟩) hlx0).trans x3⟩,(HB8.out.cell (p:=⟨b',o' + T * 4,none⟩) hly0).trans y0,(HB8.out.cell (p:=⟨b',o' + T * 4 + 1,none⟩) hly0).trans y1,(HB8.out.cell (p:=⟨b',o' + T * 4 + 2,none⟩) hly0).trans y2,(HB8.out.cell (p:=⟨b',o' + T * 4 + 3,none⟩) hly0).trans y3⟩ (fun hHeld=>?_);refine tk 0 (v:=?_) rfl hHeld ?_ ?_;rotate_left
             ·intro W h;(try dsimp only at h);go_simp;try with_reducible rfl
             try simp only [Act.put,sx]
             refine tk 1 (v:=?_) rfl hHeld ?_ ?_;rotate_left
             ·intro W h;(try dsimp only at h);go_simp;try with_reducible rfl
             try simp only [Act.put,sx]
             refine tk 2 (v:=?_) rfl hHeld ?_ ?_;rotate_left
             ·intro W h;(try dsimp only at h);go_simp;try with_reducible rfl
             try simp only [Act.put,sx]
             refine tk 3 (v:=?_) rfl hHeld ?_ ?_;rotate_left
             ·intro W h;(try dsimp only at h);go_simp;try with_reducible rfl
             try simp only [Act.put,sx]
             refine tk 4 (v:=?_) rfl hHeld ?_ ?_;rotate_left
             ·intro W h;(try dsimp only at h);go_simp;try with_reducible rfl
             try simp only [Act.put,sx]
             refine tk 5 (v:=?_) rfl hHeld ?_ ?_;rotate_left
             ·intro W h;(try dsimp only at h);go_simp;try with_reducible rfl
             try simp only [Act.put,sx]
             refine tk 6 (v:=?_) rfl hHeld ?_ ?_;rotate_left
             ·intro W h;(try dsimp only at h);go_simp;try with_reducible rfl
             try simp only [Act.put,sx]
             refine tk 7 (v:=?_) rfl hHeld ?_ ?_;rotate_left
             ·intro W h;(try dsimp only at h);go_simp;try with_reducible rfl
             try simp only [Act.put,sx]
             refine tk 8 (v:=?_) rfl hHeld ?_ ?_;rotate_left
             ·intro W h;(try dsimp only at h);go_simp;try with_reducible rfl
             try simp only [Act.put,sx]
             refine tk 9 (v:=?_) rfl hHeld ?_ ?_;rotate_left
             ·intro W h;(try dsimp only at h);go_simp;try with_reducible rfl
             try simp only [Act.put,sx]
             refine tk 11 (v:=?_) rfl hHeld ?_ ?_;rotate_left
             ·intro W h;(try dsimp only at h);go_simp;try with_reducible rfl
             try simp only [Act.put,sx]
             refine tk 12 (v:=?_) rfl hHeld ?_ ?_;rotate_left
             ·intro W h;(try dsimp only at h);go_simp;try with_reducible rfl
             try simp only [Act.put,sx]
             refine tk 13 (v:=?_) rfl hHeld ?_ ?_;rotate_left
             ·intro W h;(try dsimp only at h);go_simp;try with_reducible rfl
             try simp only [Act.put,sx]
             refine tk 14 (v:=?_) rfl hHeld ?_ ?_;rotate_left
             ·intro W h;(try dsimp only at h);go_simp;try with_reducible rfl
             try simp only [Act.put,sx]
             refine wpAnyH_ready (rs:=[10]) (by kernel_rfl) (by simp) ?_;refine AllReadyH.cons rfl (fun K1 hK1=>?_) AllReadyH.nil;go_simp
             refine (CA1.out _ (bd HB8.out 1)).mono ?_;rintro e v6 g6;obtain ⟨a6,k6,rfl,t1,R6,t2,t3,B6⟩:=g6.open;clear t1 t2 t3 g6;have HB6:=dh (pt (bd HB8.out 1) B6);have HR6:=dh R6;clear R6 B6;refine hK1.out _ _ ⟨⟨(HB6.out.cell (p:=⟨g,o + J * 4,none⟩) hlx0).trans x0,(HB6.out.cell (p:=⟨g,o + J * 4 + 1,none⟩) hlx0).trans x1,(HB6.out.cell (p:=⟨g,o + J * 4 + 2,none⟩) hlx0).trans x2,(HB6.out.cell (p:=⟨g,o + J * 4 + 3,none⟩) hlx0).trans x3⟩,(HB6.out.cell (p:=⟨b',o' + T * 4,none⟩) hly0).trans y0,(HB6.out.cell (p:=⟨b',o' + T * 4 + 1,none⟩) hly0).trans y1,(HB6.out.cell (p:=⟨b',o' + T * 4 + 2,none⟩) hly0).trans y2,(HB6.out.cell (p:=⟨b',o' + T * 4 + 3,none⟩) hly0).trans y3⟩ (fun hHeld=>?_);clear hK1
             try simp only [Act.put,sx]
             refine wpAnyH_ready (rs:=[15]) (by kernel_rfl) (by simp) ?_;refine AllReadyH.cons rfl (fun K1 hK1=>?_) AllReadyH.nil;go_simp
             refine (CA2.out _ (HB6.out)).mono ?_;rintro e v7 g7;obtain ⟨a7,k7,rfl,t1,R7,t2,t3,B7⟩:=g7.open;clear t1 t2 t3 g7;have HB7:=dh (pt (HB6.out) B7);have HR7:=dh R7;have HR6':=dh (HR6.out.below B7);clear R7 B7;refine hK1.out _ _ ⟨⟨(HB7.out.cell (p:=⟨g,o + J * 4,none⟩) hlx0).trans x0,(HB7.out.cell (p:=⟨g,o + J * 4 + 1,none⟩) hlx0).trans x1,(HB7.out.cell (p:=⟨g,o + J * 4 + 2,none⟩) hlx0).trans x2,(HB7.out.cell (p:=⟨g,o + J * 4 + 3,none⟩) hlx0).trans x3⟩,(HB7.out.cell (p:=⟨b',o' + T * 4,none⟩) hly0).trans y0,(HB7.out.cell (p:=⟨b',o' + T * 4 + 1,none⟩) hly0).trans y1,(HB7.out.cell (p:=⟨b',o' + T * 4 + 2,none⟩) hly0).trans y2,(HB7.out.cell (p:=⟨b',o' + T * 4 + 3,none⟩) hly0).trans y3⟩ (fun hHeld=>?_);clear hK1
             try simp only [Act.put,sx]
             refine wpAnyH_ready (rs:=[16]) (by kernel_rfl) (by simp) ?_;refine AllReadyH.cons rfl (fun K1 hK1=>?_) AllReadyH.nil;go_simp
             refine (rcompare_any HR6'.out HR7.out _ rfl).mono ?_;rintro e u9 ⟨rfl,q5,rfl⟩;have HB8:=dh (bd HB7.out q5);refine hK1.out _ _ ⟨⟨(HB8.out.cell (p:=⟨g,o + J * 4,none⟩) hlx0).trans x0,(HB8.out.cell (p:=⟨g,o + J * 4 + 1,none⟩) hlx0).trans x1,(HB8.out.cell (p:=⟨g,o + J * 4 + 2,none⟩) hlx0).trans x2,(HB8.out.cell (p:=⟨g,o + J * 4 + 3,none⟩) hlx0).trans x3⟩,(HB8.out.cell (p:=⟨b',o' + T * 4,none⟩) hly0).trans y0,(HB8.out.cell (p:=⟨b',o' + T * 4 + 1,none⟩) hly0).trans y1,(HB8.out.cell (p:=⟨b',o' + T * 4 + 2,none⟩) hly0).trans y2,(HB8.out.cell (p:=⟨b',o' + T * 4 + 3,none⟩) hly0).trans y3⟩ (fun hHeld=>?_);clear hK1
             try simp only [Act.put,sx]
             refine tk 17 (v:=?_) rfl hHeld ?_ ?_;rotate_left
             ·intro W h;(try dsimp only at h);go_simp;try with_reducible rfl
             try simp only [Act.put,sx]
             refine tk 18 (v:=?_) rfl hHeld ?_ ?_;rotate_left
             ·intro W h;(try dsimp only at h);go_simp;try with_reducible rfl
             try simp only [Act.put,sx]
             refine tk 19 (v:=?_) rfl hHeld ?_ ?_;rotate_left
             ·intro W h;(try dsimp only at h);go_simp;try with_reducible rfl
             try simp only [Act.put,sx]
             refine tk 20 (v:=?_) rfl hHeld ?_ ?_;rotate_left
             ·intro W h;(try dsimp only at h);go_simp;try with_reducible rfl
             try simp only [Act.put,sx]
             refine wpAnyH_done (by kernel_rfl) ?_ _
             try simp only [Act.put,sx]
             clear hHeld;have hmem:=HIN.out.member (p:=p) (k:=kk - 1) HAT1.out hks HNC.out;rw [HCK.out] at hmem;have HMEM:Hid (It.cmpB (It.enc r.1) (It.enc p.1)=0↔It.key p ∈ ls.map It.key):=dh hmem;clear hmem;by_cases hz:It.cmpB (It.enc r.1) (It.enc p.1)=0
             ·have HD:Hid (decide (It.key p ∈ ls.map It.key)=true):=dh (decide_eq_true (HMEM.out.1 hz))
              generalize It.cmpB (It.enc r.1) (It.enc p.1)=C at hz ⊢;have hz1:(C==0)=true:=by simpa using hz
              go_wp2_with fail
              go_meet
              exact ⟨by rw [HD.out];rfl,HB8.out⟩
             ·have HD:Hid (decide (It.key p ∈ ls.map It.key)=false):=dh (decide_eq_false fun h=>hz (HMEM.out.2 h))
              generalize It.cmpB (It.enc r.1) (It.enc p.1)=C at hz ⊢;have hz1:(C==0)=false:=by simpa using hz
              go_wp2_with fail
              go_meet
              exact ⟨by rw [HD.out];rfl,HB8.out⟩
          case rest=>
           obtain ⟨rfl,hB9⟩:=hcut;have HB9:=dh hB9;clear hB9;have hMT:(M:Int)≤(T:Int):=by omega
           have hTlc:(T:Int)≤(lc:Int):=by omega
           have hMlc:(M:Int)≤(lc:Int):=by omega
           go_wp2_with fail
           refine wp_region_held_drew (S:=(fun w'=>(w'.cell? ⟨b',o' + T * 4,none⟩=some (.int .i64 p.1.kind)∧w'.cell? ⟨b',o' + T * 4 + 1,none⟩=some (.int .u64 (p.1.num:Int))∧w'.cell? ⟨b',o' + T * 4 + 2,none⟩=some (.slice A2.ab A2.nb A2.cb)∧w'.cell? ⟨b',o' + T * 4 + 3,none⟩=some (.slice A2.ai A2.ni A2.ci))∧w'.cell? ⟨b',o' + T1 * 4,none⟩=some (.int .i64 p.2.kind)∧w'.cell? ⟨b',o' + T1 * 4 + 1,none⟩=some (.int .u64 (p.2.num:Int))∧w'.cell? ⟨b',o' + T1 * 4 + 2,none⟩=some (.slice A3.ab A3.nb A3.cb)∧w'.cell? ⟨b',o' + T1 * 4 + 3,none⟩=some (.slice A3.ai A3.ni A3.ci))) (by kernel_rfl) ⟨⟨(HB9.out.cell (p:=⟨b',o' + T * 4,none⟩) hly0).trans y0,(HB9.out.cell (p:=⟨b',o' + T * 4 + 1,none⟩) hly0).trans y1,(HB9.out.cell (p:=⟨b',o' + T * 4 + 2,none⟩) hly0).trans y2,(HB9.out.cell (p:=⟨b',o' + T * 4 + 3,none⟩) hly0).trans y3⟩,(HB9.out.cell (p:=⟨b',o' + T1 * 4,none⟩) hly0).trans z0,(HB9.out.cell (p:=⟨b',o' + T1 * 4 + 1,none⟩) hly0).trans z1,(HB9.out.cell (p:=⟨b',o' + T1 * 4 + 2,none⟩) hly0).trans z2,(HB9.out.cell (p:=⟨b',o' + T1 * 4 + 3,none⟩) hly0).trans z3⟩ (fun hHeld=>?_);refine tk 0 (v:=?_) rfl hHeld ?_ ?_;rotate_left
           ·intro W h;(try dsimp only at h);go_simp;try with_reducible rfl
           try simp only [Act.put,sx]
           refine tk 1 (v:=?_) rfl hHeld ?_ ?_;rotate_left
           ·intro W h;(try dsimp only at h);go_simp;try with_reducible rfl
           try simp only [Act.put,sx]
           refine tk 2 (v:=?_) rfl hHeld ?_ ?_;rotate_left
           ·intro W h;(try dsimp only at h);go_simp;try with_reducible rfl
           try simp only [Act.put,sx]
           refine tk 4 (v:=?_) rfl hHeld ?_ ?_;rotate_left
           ·intro W h;(try dsimp only at h);go_simp;try with_reducible rfl
           try simp only [Act.put,sx]
           refine tk 5 (v:=?_) rfl hHeld ?_ ?_;rotate_left
           ·intro W h;(try dsimp only at h);go_simp;try with_reducible rfl
           try simp only [Act.put,sx]
           refine tk 6 (v:=?_) rfl hHeld ?_ ?_;rotate_left
           ·intro W h;(try dsimp only at h);go_simp;try with_reducible rfl
           try simp only [Act.put,sx]
           refine tk 7 (v:=?_) rfl hHeld ?_ ?_;rotate_left
           ·intro W h;(try dsimp only at h);go_simp;try with_reducible rfl
           try simp only [Act.put,sx]
           refine tk 8 (v:=?_) rfl hHeld ?_ ?_;rotate_left
           ·intro W h;(try dsimp only at h);go_simp;try with_reducible rfl
           try simp only [Act.put,sx]
           refine tk 9 (v:=?_) rfl hHeld ?_ ?_;rotate_left
           ·intro W h;(try dsimp only at h);go_simp;try with_reducible rfl
           try simp only [Act.put,sx]
           refine tk 10 (v:=?_) rfl hHeld ?_ ?_;rotate_left
           ·intro W h;(try dsimp only at h);go_simp;try with_reducible rfl
           try simp only [Act.put,sx]
           refine tk 11 (v:=?_) rfl hHeld ?_ ?_;rotate_left
           ·intro W h;(try dsimp only at h);go_simp;try with_reducible rfl
           try simp only [Act.put,sx]
           refine tk 12 (v:=?_) rfl hHeld ?_ ?_;rotate_left
           ·intro W h;(try dsimp only at h);go_simp;try with_reducible rfl
           try simp only [Act.put,sx]
           refine tk 15 (v:=?_) rfl hHeld ?_ ?_;rotate_left
           ·intro W h;(try dsimp only at h);go_simp;try with_reducible rfl
           try simp only [Act.put,sx]
           refine tk 16 (v:=?_) rfl hHeld ?_ ?_;rotate_left
           ·intro W h;(try dsimp only at h);go_simp;try with_reducible rfl
           try simp only [Act.put,sx]
           refine tk 17 (v:=?_) rfl hHeld ?_ ?_;rotate_left
           ·intro W h;(try dsimp only at h);go_simp;try with_reducible rfl
           try simp only [Act.put,sx]
           refine wpAnyH_ready (rs:=[3,13]) (by kernel_rfl) (by simp) ?_;refine AllReadyH.cons rfl (fun K1 hK1=>?_) (AllReadyH.cons rfl (fun K1 hK1=>?_) AllReadyH.nil)
           ·obtain ⟨v3,W3,hrun,hO3,hB3,hk3⟩:=app_fresh (u:=u) (W:=wc.drew) (B:=B) (c:=lc) hBw (bd HB9.out 1) (OutI.nil _ _ _) (news:=es.take M) (SrcI.take (k:=M) (HSR.out.keep fun q r _ hl=>(bd HB9.out 1).block q hl) (by omega)) (fun e he=>(HOI.out e (List.mem_of_mem_take he)).below (bd HB9.out 1)) (by simp <;> omega)
            obtain ⟨a3,c3,e3⟩:=og hO3.row;generalize ([] ++ es.take M:List (It × Ad)).length=n3 at e3;subst e3;have HO3:=dh hO3;have HB3:=dh hB3;rw [if_pos (by rfl)];refine wp_app _ _ 29 rfl rfl rfl hrun ?_;clear hrun hO3 hB3 hk3;refine hK1.out _ _ ⟨⟨(HB3.out.cell (p:=⟨b',o' + T * 4,none⟩) hly0).trans y0,(HB3.out.cell (p:=⟨b',o' + T * 4 + 1,none⟩) hly0).trans y1,(HB3.out.cell (p:=⟨b',o' + T * 4 + 2,none⟩) hly0).trans y2,(HB3.out.cell (p:=⟨b',o' + T * 4 + 3,none⟩) hly0).trans y3⟩,(HB3.out.cell (p:=⟨b',o' + T1 * 4,none⟩) hly0).trans z0,(HB3.out.cell (p:=⟨b',o' + T1 * 4 + 1,none⟩) hly0).trans z1,(HB3.out.cell (p:=⟨b',o' + T1 * 4 + 2,none⟩) hly0).trans z2,(HB3.out.cell (p:=⟨b',o' + T1 * 4 + 3,none⟩) hly0).trans z3⟩ (fun hHeld=>?_);clear hK1
            try simp only [Act.put,sx]
            refine wpAnyH_ready (rs:=[13]) (by kernel_rfl) (by simp) ?_;refine AllReadyH.cons rfl (fun K1 hK1=>?_) AllReadyH.nil;go_simp
            have HB13:=dh (pt HB3.out (al W3 (.cells #[.int .i64 p.1.kind,.int .u64 (p.1.num:Int),.slice A2.ab A2.nb A2.cb,.slice A2.ai A2.ni A2.ci,.int .i64 p.2.kind,.int .u64 (p.2.num:Int),.slice A3.ab A3.nb A3.cb,.slice A3.ai A3.ni A3.ci] 31)));have HN13:=dh (aw W3 (.cells #[.int .i64 p.1.kind,.int .u64 (p.1.num:Int),.slice A2.ab A2.nb A2.cb,.slice A2.ai A2.ni A2.ci,.int .i64 p.2.kind,.int .u64 (p.2.num:Int),.slice A3.ab A3.nb A3.cb,.slice A3.ai A3.ni A3.ci] 31));have HO13:=dh (HO3.out.pure (al W3 (.cells #[.int .i64 p.1.kind,.int .u64 (p.1.num:Int),.slice A2.ab A2.nb A2.cb,.slice A2.ai A2.ni A2.ci,.int .i64 p.2.kind,.int .u64 (p.2.num:Int),.slice A3.ab A3.nb A3.cb,.slice A3.ai A3.ni A3.ci] 31)));refine hK1.out _ _ ⟨⟨(HB13.out.cell (p:=⟨b',o' + T * 4,none⟩) hly0).trans y0,(HB13.out.cell (p:=⟨b',o' + T * 4 + 1,none⟩) hly0).trans y1,(HB13.out.cell (p:=⟨b',o' + T * 4 + 2,none⟩) hly0).trans y2,(HB13.out.cell (p:=⟨b',o' + T * 4 + 3,none⟩) hly0).trans y3⟩,(HB13.out.cell (p:=⟨b',o' + T1 * 4,none⟩) hly0).trans z0,(HB13.out.cell (p:=⟨b',o' + T1 * 4 + 1,none⟩) hly0).trans z1,(HB13.out.cell (p:=⟨b',o' + T1 * 4 + 2,none⟩) hly0).trans z2,(HB13.out.cell (p:=⟨b',o' + T1 * 4 + 3,none⟩) hly0).trans z3⟩ (fun hHeld=>?_);clear hK1
            try simp only [Act.put,sx]
            refine wpAnyH_ready (rs:=[14]) (by kernel_rfl) (by simp) ?_;refine AllReadyH.cons rfl (fun K1 hK1=>?_) AllReadyH.nil;obtain ⟨v14,W14,hrun,hO14,hB14,hk14⟩:=app_fresh (u:=u) (W:=(W3.alloc (.cells #[.int .i64 p.1.kind,.int .u64 (p.1.num:Int),.slice A2.ab A2.nb A2.cb,.slice A2.ai A2.ni A2.ci,.int .i64 p.2.kind,.int .u64 (p.2.num:Int),.slice A3.ab A3.nb A3.cb,.slice A3.ai A3.ni A3.ci] 31))) (B:=B) (c:=2) hBw HB13.out HO13.out (news:=[(p.1,A2),(p.2,A3)]) (SrcI.two HN13.out) (fun e he=>by
             simp only [List.mem_cons,List.not_mem_nil,or_false] at he;rcases he with rfl | rfl
             ·exact HI2.out.below HB13.out
             ·exact HI3.out.below HB13.out) (by simp <;> omega)
            obtain ⟨a14,c14,e14⟩:=og hO14.row;generalize (([] ++ es.take M) ++ [(p.1,A2),(p.2,A3)]:List (It × Ad)).length=n14 at e14;subst e14;have HO14:=dh hO14;have HB14:=dh hB14;rw [if_pos (by rfl)];refine wp_app _ _ 29 rfl rfl rfl hrun ?_;clear hrun hO14 hB14 hk14;refine hK1.out _ _ ⟨⟨(HB14.out.cell (p:=⟨b',o' + T * 4,none⟩) hly0).trans y0,(HB14.out.cell (p:=⟨b',o' + T * 4 + 1,none⟩) hly0).trans y1,(HB14.out.cell (p:=⟨b',o' + T * 4 + 2,none⟩) hly0).trans y2,(HB14.out.cell (p:=⟨b',o' + T * 4 + 3,none⟩) hly0).trans y3⟩,(HB14.out.cell (p:=⟨b',o' + T1 * 4,none⟩) hly0).trans z0,(HB14.out.cell (p:=⟨b',o' + T1 * 4 + 1,none⟩) hly0).trans z1,(HB14.out.cell (p:=⟨b',o' + T1 * 4 + 2,none⟩) hly0).trans z2,(HB14.out.cell (p:=⟨b',o' + T1 * 4 + 3,none⟩) hly0).trans z3⟩ (fun hHeld=>?_);clear hK1
            try simp only [Act.put,sx]
            refine wpAnyH_ready (rs:=[18]) (by kernel_rfl) (by simp) ?_;refine AllReadyH.cons rfl (fun K1 hK1=>?_) AllReadyH.nil;obtain ⟨v18,W18,hrun,hO18,hB18,hk18⟩:=app_fresh (u:=u) (W:=W14) (B:=B) (c:=lc - M) hBw HB14.out HO14.out (news:=es.drop M) (SrcI.drop' (k:=M) (c:=lc) (HSR.out.keep fun q r _ hl=>HB14.out.block q hl) (by omega) (by omega)) (fun e he=>(HOI.out e (List.mem_of_mem_drop he)).below HB14.out) (by simp <;> omega)
            have HO18:=dh hO18;have HB18:=dh hB18;rw [if_pos (by rfl)];refine wp_app _ _ 29 rfl rfl rfl hrun ?_;clear hrun hO18 hB18 hk18;refine hK1.out _ _ ⟨⟨(HB18.out.cell (p:=⟨b',o' + T * 4,none⟩) hly0).trans y0,(HB18.out.cell (p:=⟨b',o' + T * 4 + 1,none⟩) hly0).trans y1,(HB18.out.cell (p:=⟨b',o' + T * 4 + 2,none⟩) hly0).trans y2,(HB18.out.cell (p:=⟨b',o' + T * 4 + 3,none⟩) hly0).trans y3⟩,(HB18.out.cell (p:=⟨b',o' + T1 * 4,none⟩) hly0).trans z0,(HB18.out.cell (p:=⟨b',o' + T1 * 4 + 1,none⟩) hly0).trans z1,(HB18.out.cell (p:=⟨b',o' + T1 * 4 + 2,none⟩) hly0).trans z2,(HB18.out.cell (p:=⟨b',o' + T1 * 4 + 3,none⟩) hly0).trans z3⟩ (fun hHeld=>?_);clear hK1
            try simp only [Act.put,sx]
            refine tk 19 (v:=?_) rfl hHeld ?_ ?_;rotate_left
            ·intro W h;(try dsimp only at h);go_simp;try with_reducible rfl
            try simp only [Act.put,sx]
            refine wpAnyH_done (by kernel_rfl) ?_ _
            try simp only [Act.put,sx]
            clear hHeld;go_wp2_with fail
            go_roundw
            case rel=>
             have hst:=HIN.out.step HAT.out HLO.out;refine ⟨T + 2,q + 1,_,_,It.insK ls p,by go_num,by have:=HTQ.out;omega,rfl,by omega,?_,ins_flat HES.out HM.out hst,HIN.out.next _ (by simp),by rw [hB];exact HO18.out.lower hBw,fun h=>by omega,HWU.out.trans (HB18.out.mono HWU.out.size)⟩;rw [HLS.out];exact (sortK_succ _ q p HPG.out).symm
            case measure=>simp [intOf];omega
           ·go_simp
            have HB13:=dh (bd (pt HB9.out (al wc (.cells #[.int .i64 p.1.kind,.int .u64 (p.1.num:Int),.slice A2.ab A2.nb A2.cb,.slice A2.ai A2.ni A2.ci,.int .i64 p.2.kind,.int .u64 (p.2.num:Int),.slice A3.ab A3.nb A3.cb,.slice A3.ai A3.ni A3.ci] 31))) 1);have HN13:=dh (aw wc (.cells #[.int .i64 p.1.kind,.int .u64 (p.1.num:Int),.slice A2.ab A2.nb A2.cb,.slice A2.ai A2.ni A2.ci,.int .i64 p.2.kind,.int .u64 (p.2.num:Int),.slice A3.ab A3.nb A3.cb,.slice A3.ai A3.ni A3.ci] 31));refine hK1.out _ _ ⟨⟨(HB13.out.cell (p:=⟨b',o' + T * 4,none⟩) hly0).trans y0,(HB13.out.cell (p:=⟨b',o' + T * 4 + 1,none⟩) hly0).trans y1,(HB13.out.cell (p:=⟨b',o' + T * 4 + 2,none⟩) hly0).trans y2,(HB13.out.cell (p:=⟨b',o' + T * 4 + 3,none⟩) hly0).trans y3⟩,(HB13.out.cell (p:=⟨b',o' + T1 * 4,none⟩) hly0).trans z0,(HB13.out.cell (p:=⟨b',o' + T1 * 4 + 1,none⟩) hly0).trans z1,(HB13.out.cell (p:=⟨b',o' + T1 * 4 + 2,none⟩) hly0).trans z2,(HB13.out.cell (p:=⟨b',o' + T1 * 4 + 3,none⟩) hly0).trans z3⟩ (fun hHeld=>?_);clear hK1
            try simp only [Act.put,sx]
            refine wpAnyH_ready (rs:=[3]) (by kernel_rfl) (by simp) ?_;refine AllReadyH.cons rfl (fun K1 hK1=>?_) AllReadyH.nil;obtain ⟨v3,W3,hrun,hO3,hB3,hk3⟩:=app_fresh (u:=u) (W:=(wc.alloc (.cells #[.int .i64 p.1.kind,.int .u64 (p.1.num:Int),.slice A2.ab A2.nb A2.cb,.slice A2.ai A2.ni A2.ci,.int .i64 p.2.kind,.int .u64 (p.2.num:Int),.slice A3.ab A3.nb A3.cb,.slice A3.ai A3.ni A3.ci] 31)).drew) (B:=B) (c:=lc) hBw HB13.out (OutI.nil _ _ _) (news:=es.take M) (SrcI.take (k:=M) (HSR.out.keep fun q r _ hl=>HB13.out.block q hl) (by omega)) (fun e he=>(HOI.out e (List.mem_of_mem_take he)).below HB13.out) (by simp <;> omega)
            obtain ⟨a3,c3,e3⟩:=og hO3.row;generalize ([] ++ es.take M:List (It × Ad)).length=n3 at e3;subst e3;have HO3:=dh hO3;have HB3:=dh hB3;have HN13b:=dh ((hk3 _ (lb HN13.out) (fun e=>by cases e)).trans HN13.out);rw [if_pos (by rfl)];refine wp_app _ _ 29 rfl rfl rfl hrun ?_;clear hrun hO3 hB3 hk3;refine hK1.out _ _ ⟨⟨(HB3.out.cell (p:=⟨b',o' + T * 4,none⟩) hly0).trans y0,(HB3.out.cell (p:=⟨b',o' + T * 4 + 1,none⟩) hly0).trans y1,(HB3.out.cell (p:=⟨b',o' + T * 4 + 2,none⟩) hly0).trans y2,(HB3.out.cell (p:=⟨b',o' + T * 4 + 3,none⟩) hly0).trans y3⟩,(HB3.out.cell (p:=⟨b',o' + T1 * 4,none⟩) hly0).trans z0,(HB3.out.cell (p:=⟨b',o' + T1 * 4 + 1,none⟩) hly0).trans z1,(HB3.out.cell (p:=⟨b',o' + T1 * 4 + 2,none⟩) hly0).trans z2,(HB3.out.cell (p:=⟨b',o' + T1 * 4 + 3,none⟩) hly0).trans z3⟩ (fun hHeld=>?_);clear hK1
            try simp only [Act.put,sx]
            refine wpAnyH_ready (rs:=[14]) (by kernel_rfl) (by simp) ?_;refine AllReadyH.cons rfl (fun K1 hK1=>?_) AllReadyH.nil;obtain ⟨v14,W14,hrun,hO14,hB14,hk14⟩:=app_fresh (u:=u) (W:=W3) (B:=B) (c:=2) hBw HB3.out HO3.out (news:=[(p.1,A2),(p.2,A3)]) (SrcI.two HN13b.out) (fun e he=>by
             simp only [List.mem_cons,List.not_mem_nil,or_false] at he;rcases he with rfl | rfl
             ·exact HI2.out.below HB3.out
             ·exact HI3.out.below HB3.out) (by simp <;> omega)
            obtain ⟨a14,c14,e14⟩:=og hO14.row;generalize (([] ++ es.take M) ++ [(p.1,A2),(p.2,A3)]:List (It × Ad)).length=n14 at e14;subst e14;have HO14:=dh hO14;have HB14:=dh hB14;rw [if_pos (by rfl)];refine wp_app _ _ 29 rfl rfl rfl hrun ?_;clear hrun hO14 hB14 hk14;refine hK1.out _ _ ⟨⟨(HB14.out.cell (p:=⟨b',o' + T * 4,none⟩) hly0).trans y0,(HB14.out.cell (p:=⟨b',o' + T * 4 + 1,none⟩) hly0).trans y1,(HB14.out.cell (p:=⟨b',o' + T * 4 + 2,none⟩) hly0).trans y2,(HB14.out.cell (p:=⟨b',o' + T * 4 + 3,none⟩) hly0).trans y3⟩,(HB14.out.cell (p:=⟨b',o' + T1 * 4,none⟩) hly0).trans z0,(HB14.out.cell (p:=⟨b',o' + T1 * 4 + 1,none⟩) hly0).trans z1,(HB14.out.cell (p:=⟨b',o' + T1 * 4 + 2,none⟩) hly0).trans z2,(HB14.out.cell (p:=⟨b',o' + T1 * 4 + 3,none⟩) hly0).trans z3⟩ (fun hHeld=>?_);clear hK1
            try simp only [Act.put,sx]
            refine wpAnyH_ready (rs:=[18]) (by kernel_rfl) (by simp) ?_;refine AllReadyH.cons rfl (fun K1 hK1=>?_) AllReadyH.nil;obtain ⟨v18,W18,hrun,hO18,hB18,hk18⟩:=app_fresh (u:=u) (W:=W14) (B:=B) (c:=lc - M) hBw HB14.out HO14.out (news:=es.drop M) (SrcI.drop' (k:=M) (c:=lc) (HSR.out.keep fun q r _ hl=>HB14.out.block q hl) (by omega) (by omega)) (fun e he=>(HOI.out e (List.mem_of_mem_drop he)).below HB14.out) (by simp <;> omega)
            have HO18:=dh hO18;have HB18:=dh hB18;rw [if_pos (by rfl)];refine wp_app _ _ 29 rfl rfl rfl hrun ?_;clear hrun hO18 hB18 hk18;refine hK1.out _ _ ⟨⟨(HB18.out.cell (p:=⟨b',o' + T * 4,none⟩) hly0).trans y0,(HB18.out.cell (p:=⟨b',o' + T * 4 + 1,none⟩) hly0).trans y1,(HB18.out.cell (p:=⟨b',o' + T * 4 + 2,none⟩) hly0).trans y2,(HB18.out.cell (p:=⟨b',o' + T * 4 + 3,none⟩) hly0).trans y3⟩,(HB18.out.cell (p:=⟨b',o' + T1 * 4,none⟩) hly0).trans z0,(HB18.out.cell (p:=⟨b',o' + T1 * 4 + 1,none⟩) hly0).trans z1,(HB18.out.cell (p:=⟨b',o' + T1 * 4 + 2,none⟩) hly0).trans z2,(HB18.out.cell (p:=⟨b',o' + T1 * 4 + 3,none⟩) hly0).trans z3⟩ (fun hHeld=>?_);clear hK1
            try simp only [Act.put,sx]
            refine tk 19 (v:=?_) rfl hHeld ?_ ?_;rotate_left
            ·intro W h;(try dsimp only at h);go_simp;try with_reducible rfl
            try simp only [Act.put,sx]
            refine wpAnyH_done (by kernel_rfl) ?_ _
            try simp only [Act.put,sx]
            clear hHeld;go_wp2_with fail
            go_roundw
            case rel=>
             have hst:=HIN.out.step HAT.out HLO.out;refine ⟨T + 2,q + 1,_,_,It.insK ls p,by go_num,by have:=HTQ.out;omega,rfl,by omega,?_,ins_flat HES.out HM.out hst,HIN.out.next _ (by simp),by rw [hB];exact HO18.out.lower hBw,fun h=>by omega,HWU.out.trans (HB18.out.mono HWU.out.size)⟩;rw [HLS.out];exact (sortK_succ _ q p HPG.out).symm
            case measure=>simp [intOf];omega
     ·have HLS2:Hid (ls=It.sortK (It.pairsK ps)):=dh (by rw [hls,List.take_of_length_le];have:=It.pairsK_length ps HEV.out;have:=HNI.out;omega)
      have hasc:=(hLS2i hin HLS2.out).done;obtain ⟨la,lc,ev⟩:=og hO.row;rw [hel] at ev;subst ev;have hTL0:TL (fun b=>w.heap.size≤b∨b < w.heap.size) u (It.flatK ls) la T:=by rw [← hes];exact hO.tl'.1
      have hlc:T≤lc:=hO.tl'.2.2.1;have hlcm:lc≤9223372036854775807:=hO.tl'.2.2.2;have hall:ps.all It.valid=true:=List.all_eq_true.2 HV.out;have hodd2:¬ ps.length % 2=1:=by have:=HEV.out;omega
      have HNU:=dh (Below.keep hW2 HN0.out (lb HN0.out));have HWU:=dh hW2;have HEU:=dh (HE.out.below hW2);have HTL:=dh hTL0;have hnz:¬ (T:Int) < (n:Int):=by omega
      have hlv:It.buildP ps=if tw=true then .err 7 else if It.valid (.mk 5 0 [] (It.flatK ls))=false then .err 8 else .ok (.mk 5 0 [] (It.flatK ls)):=by
       unfold It.buildP;rw [if_neg hodd2,if_neg (by rw [hall];simp),← HLS2.out];rw [← HLS2.out] at hasc;rw [hasc];cases tw <;> rfl
      have HLV:=dh hlv;clear hTL0 hlv hodd2 hall hasc hW2 hO hes hel hlq hin hls hnil hTq;cases tw with
      | true=>
        have HLV1:Hid (It.buildP ps=.err 7):=dh (HLV.out.trans (if_pos rfl));obtain ⟨r0,r1,r2,r3⟩:=cf HNU.out;obtain ⟨q0,q1,q2,q3⟩:=ff HNU.out;go_wp2_with fail
        clear r0 r1 r2 r3 q0 q1 q2 q3;obtain ⟨W',hW',hp4,hs4,hb4⟩:=pq (W:=u) (b:=B) (HNU.out) (.int .i64 0) (.int .u64 0) (.slice none 0 0) (.slice none 0 0);rw [hW'];clear hW';obtain ⟨g0,g1,g2,g3⟩:=cf hp4;refine bodyPost_ret (v:=.tuple #[.agg #[.int .i64 0,.int .u64 0,.slice none 0 0,.slice none 0 0],.int .i64 7]) (by simp [results,Tryd.results38,go_sem,g0,g1,g2,g3]) rfl ?_
        show BPost (It.buildP ps) w _ _
        rw [HLV1.out];exact ⟨rfl,by rw [hB];exact hb4 B w (HP.out.trans (HWU.out.mono (by have:=HP.out.size;omega))) (by omega)⟩
      | false=>
        have HLV2:=dh (HLV.out.trans (if_neg (by decide)));have hI9:IR (fun b=>w.heap.size≤b∨b < w.heap.size) u (.mk 5 0 [] (It.flatK ls)) ⟨none,0,0,la,T,lc⟩:=IR_iff.2 ⟨by show 0 < _;omega,⟨BR.nil _ _ _,by simp,by simp⟩,HTL.out,hlc,hlcm⟩;have P9:=al u (.cells #[.int .i64 5,.int .u64 0,.slice none 0 0,.slice la T lc] 31);have N9:=aw u (.cells #[.int .i64 5,.int .u64 0,.slice none 0 0,.slice la T lc] 31);have HN9:=dh N9;have HNR:=dh (Below.keep P9 HNU.out (lb HNU.out));have HP9:=dh P9;cases hv:It.valid (.mk 5 0 [] (It.flatK ls)) with
        | false=>
          have HLV1:Hid (It.buildP ps=.err 8):=dh (HLV2.out.trans (if_pos hv));have HC:=dh (rva (.mk 5 0 [] (It.flatK ls)) ⟨none,0,0,la,T,lc⟩ (u.alloc (.cells #[.int .i64 5,.int .u64 0,.slice none 0 0,.slice la T lc] 31)) _ (hI9.below P9) (HEU.out.below P9) false hv);clear hI9 P9 N9 hv;go_wp2_with fail
          refine HC.out.mono ?_;rintro e w6 ⟨rfl,B6⟩;have HN6:=dh (Below.keep B6 HNR.out (lb HNR.out));have HB6:=dh (HP.out.trans ((HWU.out.trans ((pt HP9.out B6).mono HWU.out.size)).mono (by have:=HP.out.size;omega)));clear B6;obtain ⟨r0,r1,r2,r3⟩:=cf HN6.out;obtain ⟨q0,q1,q2,q3⟩:=ff HN6.out;go_wp2_with fail
          clear r0 r1 r2 r3 q0 q1 q2 q3;obtain ⟨W',hW',hp4,hs4,hb4⟩:=pq (W:=w6) (b:=B) (HN6.out) (.int .i64 0) (.int .u64 0) (.slice none 0 0) (.slice none 0 0);rw [hW'];clear hW';obtain ⟨g0,g1,g2,g3⟩:=cf hp4;refine bodyPost_ret (v:=.tuple #[.agg #[.int .i64 0,.int .u64 0,.slice none 0 0,.slice none 0 0],.int .i64 8]) (by simp [results,Tryd.results38,go_sem,g0,g1,g2,g3]) rfl ?_
          show BPost (It.buildP ps) w _ _
          rw [HLV1.out];exact ⟨rfl,by rw [hB];exact hb4 B w HB6.out (by omega)⟩
        | true=>
          have HLV1:Hid (It.buildP ps=.ok (.mk 5 0 [] (It.flatK ls))):=dh (HLV2.out.trans (if_neg (by rw [hv];decide)));have hvw:=valid_wf hv;have hst:=It.st_of hvw.1 hvw.2.1;have HC:=dh (rva (.mk 5 0 [] (It.flatK ls)) ⟨none,0,0,la,T,lc⟩ (u.alloc (.cells #[.int .i64 5,.int .u64 0,.slice none 0 0,.slice la T lc] 31)) _ (hI9.below P9) (HEU.out.below P9) true hv);have HCP:=dh (fun W (hW:Below (u.alloc (.cells #[.int .i64 5,.int .u64 0,.slice none 0 0,.slice la T lc] 31)).heap.size (u.alloc (.cells #[.int .i64 5,.int .u64 0,.slice none 0 0,.slice la T lc] 31)) W)=>copy_any 256 (.mk 5 0 [] (It.flatK ls)) ⟨none,0,0,la,T,lc⟩ W _ hvw.2.2 (by omega) hst ((hI9.below P9).below hW));clear hI9 P9 N9 hv hvw hst;go_wp2_with fail
          refine HC.out.mono ?_;rintro e w6 ⟨rfl,B6⟩;have HN6:=dh (Below.keep B6 HNR.out (lb HNR.out));have HM6:=dh (Below.keep B6 HN9.out (lb HN9.out));have HB6:=dh (HP.out.trans ((HWU.out.trans ((pt HP9.out B6).mono HWU.out.size)).mono (by have:=HP.out.size;omega)));have HB6':=dh B6;clear B6;obtain ⟨x0,x1,x2,x3⟩:=cf HM6.out;go_wp2_with fail
          refine (HCP.out w6 HB6'.out).mono ?_;rintro e w7 h7;obtain ⟨A7,rfl,hI7,hB7⟩:=h7.ir (by show 0 < _;omega);simp only [It.kind,It.num];have HI7:=dh hI7;have HN7:=dh (Below.keep hB7 HN6.out (lb HN6.out));have HL7:=dh (lb HN6.out);have HB7:=dh (HB6.out.trans (hB7.mono (by have:=HB6.out.size;omega)));clear h7 hI7 hB7 x0 x1 x2 x3;obtain ⟨r0,r1,r2,r3⟩:=cf HN7.out;obtain ⟨q0,q1,q2,q3⟩:=ff HN7.out;obtain ⟨ab7,nb7,cb7,ai7,ni7,ci7⟩:=A7;simp only at *;go_wp2_with fail
          clear r0 r1 r2 r3 q0 q1 q2 q3;obtain ⟨W',hW',hp4,hs4,hb4⟩:=pq (W:=w7) (b:=B) (HN7.out) (.int .i64 5) (.int .u64 0) (.slice ab7 nb7 cb7) (.slice ai7 ni7 ci7);rw [hW'];clear hW';obtain ⟨g0,g1,g2,g3⟩:=cf hp4;refine bodyPost_ret (v:=.tuple #[.agg #[.int .i64 5,.int .u64 0,.slice ab7 nb7 cb7,.slice ai7 ni7 ci7],.int .i64 0]) (by simp [results,Tryd.results38,go_sem,g0,g1,g2,g3]) rfl ?_
          show BPost (It.buildP ps) w _ _
          rw [HLV1.out];refine ⟨⟨ab7,nb7,cb7,ai7,ni7,ci7⟩,rfl,HI7.out.keep fun b hb hl=>⟨hs4.2 b (by have:=HL7.out;omega),by rw [hB];have:=HB6.out.size;omega⟩,by rw [hB];exact hb4 B w HB7.out (by omega)⟩
end Go.Proofs.YtelefkkkccilaaaDoor
