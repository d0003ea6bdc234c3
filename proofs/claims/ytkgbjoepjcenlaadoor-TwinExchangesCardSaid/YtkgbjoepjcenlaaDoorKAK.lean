/- Joined texts. -/
import Derived.Test.YtkgbjoepjcenlaaDoorKAJ
import Derived.Test.YtkgbjoepjcenlaaDoorKAA
import Derived.Deep.LoopGhost
set_option linter.unusedVariables false
set_option linter.unusedSimpArgs false
namespace Go.Proofs.YtkgbjoepjcenlaaDoor
open Go.RowKit Go.Maps
def ClPost (l:List Tm) (w:World) (e:Ending) (w':World):Prop:=∃ K M C,e=.returned (.tuple #[.pointer (some ⟨K,0,none⟩),.int .i64 0])∧KB w' K M C∧Tm.IsCl l C∧Below w.heap.size w w'
theorem kn_made (w:World):KN ((w.alloc (.map #[] 0)).alloc (.cells #[.slice none 0 0,.map (some w.heap.size)] 75)) (w.heap.size + 2) (w.heap.size + 1) w.heap.size (.slice none 0 0) [] []:=by
 refine ⟨alloc_new' _ _ _ (by simp),OutT.nil _ _ _ _,⟨0,.map [],own_map_keep (World.ownsMap_made (H:=Unit) w Tryd.prog 9 (plainElem Tryd.prog 4)) ((pure_alloc _ _).block _ (by simp)),Nat.le_refl _,MapOf.nil⟩,by omega,by omega,by omega,by simp⟩
structure Lp (l C0 C:List Tm) (gr:Bool) (j:Nat):Prop where
 inv:Tm.Inv l C
 sub:∀ x ∈ C0,x ∈ C
 get:∀ i (h:i < C0.length),∃ h':i < C.length,C[i]=C0[i]
 same:gr=false→C=C0∧∀ i (h:i < C0.length),i < j→∀ p ∈ Tm.parts C0 C0[i],p ∈ C0
 less:gr=true→Tm.rem (Tm.accN l) C < Tm.rem (Tm.accN l) C0
theorem Lp.start {l C:List Tm} (h:Tm.Inv l C):Lp l C C false 0:=⟨h,fun _ h=>h,fun i h=>⟨h,rfl⟩,fun _=>⟨rfl,fun i _ h=>by omega⟩,fun h=>by cases h⟩
structure Lq (l C0 D C:List Tm) (gr0 gr:Bool) (j q:Nat) (P:List Tm):Prop where
 inv:Tm.Inv l C
 sub:∀ x ∈ D,x ∈ C
 get:∀ i (h:i < D.length),∃ h':i < C.length,C[i]=D[i]
 same:gr=false→C=D∧gr0=false∧∀ p ∈ P.take q,p ∈ D
 less:gr=true→gr0=true∨Tm.rem (Tm.accN l) C < Tm.rem (Tm.accN l) D
theorem Lq.start {l C0 D:List Tm} {gr:Bool} {j:Nat} {P:List Tm} (h:Tm.Inv l D):Lq l C0 D D gr gr j 0 P:=⟨h,fun _ h=>h,fun i h=>⟨h,rfl⟩,fun h=>⟨rfl,h,fun p hp=>by simp at hp⟩,fun h=>.inl h⟩
theorem Lq.step {l C0 D C:List Tm} {gr0 gr:Bool} {j q:Nat} {t:Tm} {P:List Tm} (h:Lq l C0 D C gr0 gr j q P) (ht:t ∈ D) (hP:P=Tm.parts D t) (hq:q < P.length):Lq l C0 D (Tm.put C P[q]) gr0 (decide (P[q] ∉ C) || gr) j (q + 1) P:=by
 have hp:P[q] ∈ Tm.parts D t:=hP ▸ List.getElem_mem hq
 refine ⟨h.inv.addP h.sub ht hp,fun x hx=>Tm.put_mem.2 (.inl (h.sub x hx)),fun i hi=>?_,fun hg=>?_,fun hg=>?_⟩
 ·obtain ⟨h1,h2⟩:=h.get i hi
  obtain ⟨h3,h4⟩:=Tm.put_take (t:=P[q]) h1
  exact ⟨h3,h4.trans h2⟩
 ·simp only [Bool.or_eq_false_iff,decide_eq_false_iff_not,Classical.not_not] at hg
  obtain ⟨e1,e2,e3⟩:=h.same hg.2
  have hin:P[q] ∈ C:=hg.1
  refine ⟨by unfold Tm.put;rw [if_pos hin];exact e1,e2,fun p hp=>?_⟩
  rw [List.take_succ_eq_append_getElem hq] at hp
  rcases List.mem_append.1 hp with hp | hp
  ·exact e3 p hp
  ·simp at hp;rw [hp,← e1];exact hin
 ·by_cases hin:P[q] ∈ C
  ·have hg':gr=true:=by simpa [hin] using hg
   unfold Tm.put;rw [if_pos hin]
   exact h.less hg'
  ·refine .inr (Tm.rem_lt (fun x hx=>Tm.put_mem.2 (.inl (h.sub x hx))) (y:=P[q]) ?_ (fun hd=>hin (h.sub _ hd)) (Tm.put_mem.2 (.inr rfl)))
   exact (h.inv.addP h.sub ht hp).acc _ (Tm.put_mem.2 (.inr rfl))
theorem Lq.done {l C0 D C:List Tm} {gr0 gr:Bool} {j:Nat} {P:List Tm} (hp:Lp l C0 D gr0 j) (hj:j < D.length) (hP:P=Tm.parts D D[j]) (h:Lq l C0 D C gr0 gr j P.length P):Lp l C0 C gr (j + 1):=by
 refine ⟨h.inv,fun x hx=>h.sub x (hp.sub x hx),fun i hi=>?_,fun hg=>?_,fun hg=>?_⟩
 ·obtain ⟨h1,h2⟩:=hp.get i hi
  obtain ⟨h3,h4⟩:=h.get i h1
  exact ⟨h3,h4.trans h2⟩
 ·obtain ⟨e1,e2,e3⟩:=h.same hg
  obtain ⟨f1,f2⟩:=hp.same e2
  subst f1
  refine ⟨e1,fun i hi hij p hpp=>?_⟩
  by_cases e:i < j
  ·exact f2 i hi e p hpp
  ·have e':i=j:=by omega
   subst e'
   exact e3 p (by rw [List.take_length,hP];exact hpp)
 ·rcases h.less hg with e | e
  ·exact Nat.lt_of_le_of_lt (Tm.rem_mono _ h.sub) (hp.less e)
  ·exact Nat.lt_of_lt_of_le e (Tm.rem_mono _ hp.sub)
theorem Lp.closed {l C0 C:List Tm} {j:Nat} (h:Lp l C0 C false j) (hj:C.length≤j):C=C0∧Tm.Closed C:=by
 obtain ⟨e,f⟩:=h.same rfl
 refine ⟨e,fun t ht p hp=>?_⟩
 subst e
 obtain ⟨i,hi,rfl⟩:=List.getElem_of_mem ht
 exact f i hi (by omega) p hp
set_option maxRecDepth 100000 in
set_option maxHeartbeats 6400000 in
theorem closed_any (l:List Tm) (a:Option Addr) (n c:Nat) (w:World) (ok:Nat→Prop) (hTL:TL ok w l a n) (hv:∀ t ∈ l,Tm.valid t=true) (hl:l.length≤60) (hA:(Tm.accN l).length≤400) (hE:Env w):
 Calls Tryd.prog 34 #[.slice a n c] w (ClPost l w):=by
 have hn:n≤60:=by have:=hTL.1;omega
 have HTL:=Lib.hid hTL
 have HV:=Lib.hid hv
 have HLN:=Lib.hid hTL.1
 have HE:=Lib.hid hE
 have HA:=Lib.hid hA
 have hmm:= @run_makeMap Tryd.prog
 clear hTL hv hE hl hA
 go_enter Tryd.func34,Tryd.ntmps34
 go_wp2_with fail
 go_step3
 go_wp2_with fail
 go_loopw [15] (fun i W=>∃ j:Nat,i=.int .i64 j∧j≤n∧Below w.heap.size w W) (fun i _=>n - (intOf i).toNat)
 case atStart=>exact ⟨0,rfl,by omega,Below.refl _ _⟩
 case round=>
  obtain ⟨j,rfl,hj,hB⟩:=hrel
  by_cases hjn:j < n
  ·have hjl:j < l.length:=by have:=HLN.out;omega
   obtain ⟨b,o,an,nn,cc,hea,hb,c0,c1,c2,ht⟩:=(HTL.out.below hB).2.2 j hjl
   subst hea
   have PA:=pure_alloc wr (.cells #[.int .i64 l[j].op,.int .i64 l[j].num,.slice an nn cc] 28)
   have HVL:=Lib.hid (valid_any l[j] an nn cc _ ok (ht.below PA))
   have HVT:=Lib.hid (HV.out l[j] (List.getElem_mem hjl))
   have HB:=Lib.hid (hB.trans (PA.mono hB.size))
   clear hB ht PA
   generalize l[j]=k at *
   have hlt:(j:Int) < n:=by omega
   go_wp2_with fail
   refine HVL.out.mono ?_
   rintro e w3 ⟨rfl,hw3⟩
   rw [HVT.out]
   have HB3:=Lib.hid (HB.out.trans (hw3.mono HB.out.size))
   clear hw3 c0 c1 c2 HVL HVT HB
   go_wp2_with fail
   go_roundw
   case rel=>exact ⟨j + 1,by go_num,by omega,HB3.out⟩
   case measure=>simp [intOf];omega
  have hjn':¬ ((j:Int) < n):=by omega
  have hn60:¬ ((60:Int) < (n:Int)):=by omega
  obtain ⟨w2,rfl⟩:∃ w2:World,w2=wr:=⟨_,rfl⟩
  have HP2:=Lib.hid hB
  have HTL2:=Lib.hid (HTL.out.below hB)
  have HE2:=Lib.hid (HE.out.below hB)
  have HKN:=Lib.hid (kn_made w2)
  have HP3:Hid (Below w2.heap.size w2 ((w2.alloc (.map #[] 0)).alloc (.cells #[.slice none 0 0,.map (some w2.heap.size)] 75))):=(pure_alloc _ _).alloc (by simp) _
  clear hB HTL HE
  go_upto_region 10 with fail
  generalize (w2.alloc (.map #[] 0)).alloc (.cells #[.slice none 0 0,.map (some w2.heap.size)] 75)=w3 at *
  go_wp2_with fail
  clear hjn hjn' hj
  go_loopw [31] (fun i W=>∃ (j:Nat) (v:Value) (es:List Elem) (C:List Tm),i=.int .i64 j∧j≤n∧KN W (w2.heap.size + 2) (w2.heap.size + 1) w2.heap.size v es C∧Tm.Inv l C∧(∀ t ∈ l.take j,Tm.normal t ∈ C)∧Below w2.heap.size w2 W) (fun i _=>n - (intOf i).toNat)
  case atStart=>exact ⟨0,_,_,_,rfl,by omega,HKN.out,Tm.Inv.nil l,fun t ht=>by simp at ht,HP3.out⟩
  case round=>
   obtain ⟨j,v,es,C,rfl,hj,hKN,hI,hhas,hB⟩:=hrel
   have hCl:C.length≤400:=by have h1:=hI.len;have h2:=HA.out;omega
   by_cases hjn:j < n
   ·have hjl:j < l.length:=by have:=HLN.out;omega
    obtain ⟨b,o,an,nn,cc,hea,hb,c0,c1,c2,ht⟩:=(HTL2.out.below hB).2.2 j hjl
    subst hea
    have PA:=pure_alloc wr (.cells #[.int .i64 l[j].op,.int .i64 l[j].num,.slice an nn cc] 28)
    have hvk:=HV.out l[j] (List.getElem_mem hjl)
    have hvn:=Tm.valid_normal hvk
    have hsk:l[j].size≤2000:=by simp [Tm.valid] at hvk;exact hvk.1
    have hsn:(Tm.normal l[j]).size≤2000:=by simp [Tm.valid] at hvn;exact hvn.1
    have HWN:=Lib.hid (Tm.valid_wf hvn)
    have HNM:=Lib.hid (normal_any l[j].size l[j] an nn cc _ ok (Nat.le_refl _) (ht.below PA) (by omega))
    have HKN1:=Lib.hid (hKN.pure PA)
    have HI1:=Lib.hid (hI.addN (List.getElem_mem hjl))
    have HB1:=Lib.hid (hB.trans (PA.mono hB.size))
    have HHS:Hid (∀ t ∈ l.take (j + 1),Tm.normal t ∈ Tm.put C (Tm.normal l[j])):=by
     show ∀ t ∈ l.take (j + 1),_
     intro t ht
     rw [List.take_succ_eq_append_getElem hjl] at ht
     rcases List.mem_append.1 ht with ht | ht
     ·exact Tm.put_mem.2 (.inl (hhas t ht))
     ·simp at ht;rw [ht];exact Tm.put_mem.2 (.inr rfl)
    have hszw:wr.heap.size≤(wr.alloc (.cells #[.int .i64 l[j].op,.int .i64 l[j].num,.slice an nn cc] 28)).heap.size:=PA.size
    clear hB ht PA hKN hI hhas hvk hvn
    generalize l[j]=k at *
    have hlt:(j:Int) < n:=by omega
    go_wp2_with fail
    refine HNM.out.mono ?_
    rintro e w5 ⟨ra,rn,rc,rfl,⟨hTR,hrc⟩,hw5⟩
    have HKN5:=Lib.hid (HKN1.out.pure hw5)
    have HB5:=Lib.hid (HB1.out.trans (hw5.mono HB1.out.size))
    have HTR5:Hid (TR (okV (w2.heap.size + 2) (w2.heap.size + 1) v) w5 (Tm.normal k) ra rn):=hTR.imp fun b hb hl=>by
     have h1:=HKN1.out.lt
     have h2:(wr.alloc (.cells #[.int .i64 k.op,.int .i64 k.num,.slice an nn cc] 28)).heap.size≤b:=hb
     exact ⟨by omega,by omega,fun e=>by have:=(own_lt HKN1.out.out.row e).1;omega⟩
    have HAD:=Lib.hid (add_any (w2.heap.size + 2) (w2.heap.size + 1) w2.heap.size v es C (Tm.normal k) ra rn rc w5 HKN5.out HTR5.out hrc HWN.out (HE2.out.below HB5.out) (by omega) (by omega))
    clear hTR hw5 c0 c1 c2 HNM HKN1 HTR5
    go_wp2_with fail
    refine HAD.out.mono ?_
    rintro e w6 ⟨v',es',rfl,hKN6,_,hb6⟩
    have HKN6:Hid (KN w6 (w2.heap.size + 2) (w2.heap.size + 1) w2.heap.size v' es' (Tm.put C (Tm.normal k))):=hKN6
    have HB6:=Lib.hid (HB5.out.trans (hb6 w2.heap.size (by omega) (Nat.le_refl _)))
    clear hKN6 hb6 HAD HKN5
    go_wp2_with fail
    go_roundw
    case rel=>exact ⟨j + 1,v',es',_,by go_num,by omega,HKN6.out,HI1.out,HHS.out,HB6.out⟩
    case measure=>simp [intOf];omega
   have hjn':¬ ((j:Int) < n):=by omega
   have HHAS:Hid (∀ t ∈ l,Tm.normal t ∈ C):=by
    show ∀ t ∈ l,_
    rw [List.take_of_length_le (by have:=HLN.out;omega)] at hhas
    exact hhas
   have HKN3:=Lib.hid hKN
   have HI3:=Lib.hid hI
   have HB3:=Lib.hid hB
   obtain ⟨w4,rfl⟩:∃ w4:World,w4=wr:=⟨_,rfl⟩
   clear hKN hI hB hhas
   go_wp2_with fail
   go_step3
   go_wp2_with fail
   clear hjn hjn' hj
   go_loopg [9] (Tm.rem (Tm.accN l) C) (fun gk _ W=>∃ (v:Value) (es:List Elem) (C1:List Tm),Tm.rem (Tm.accN l) C1≤gk∧KN W (w2.heap.size + 2) (w2.heap.size + 1) w2.heap.size v es C1∧Tm.Inv l C1∧(∀ t ∈ l,Tm.normal t ∈ C1)∧Below w2.heap.size w2 W)
   case atStart=>exact ⟨_,_,_,Nat.le_refl _,HKN3.out,HI3.out,HHAS.out,HB3.out⟩
   case round=>
    obtain ⟨v,es,C1,hrem,hKN,hI,hhas,hB⟩:=hrel
    have HREM:=Lib.hid hrem
    have HHS1:=Lib.hid hhas
    have HKN1:=Lib.hid hKN
    have HI1:=Lib.hid hI
    have HB1:=Lib.hid hB
    clear hrem hKN hI hhas hB HKN3 HI3 HB3 HHAS
    obtain ⟨w5,rfl⟩:∃ w5:World,w5=wr:=⟨_,rfl⟩
    go_wp2_with fail
    go_loopw [9,10] (fun g i W=>∃ (gr:Bool) (j:Nat) (v:Value) (es:List Elem) (C:List Tm),g=.bool gr∧i=.int .i64 j∧j≤C.length∧KN W (w2.heap.size + 2) (w2.heap.size + 1) w2.heap.size v es C∧Lp l C1 C gr j∧Below w2.heap.size w2 W) (fun _ i _=>401 - (intOf i).toNat)
    case atStart=>exact ⟨false,0,_,_,_,rfl,rfl,by omega,HKN1.out,Lp.start HI1.out,HB1.out⟩
    case round=>
     obtain ⟨gr,j,v,es,C,rfl,rfl,hj,hKN,hLp,hB⟩:=hrel
     have hCl:C.length≤400:=by have h1:=hLp.inv.len;have h2:=HA.out;omega
     obtain ⟨va,vc,hvv⟩:=own_form hKN.out.row
     subst hvv
     have k0:=cell_of_arr hKN.blk 0
     simp at k0
     by_cases hjn:j < C.length
     rotate_left
     ·have hjn':¬ ((j:Int) < (C.length:Int)):=by omega
      cases gr
      ·obtain ⟨e1,e2⟩:=hLp.closed (by omega)
       have HCL:Hid (Tm.IsCl l C):=⟨fun t ht=>by rw [e1];exact HHS1.out t ht,e2,hLp.inv.least⟩
       have HKB:=Lib.hid (hKN.kb (by omega))
       have HBE:=Lib.hid (HP2.out.trans (hB.mono HP2.out.size))
       clear hKN hLp hB e1 e2
       go_wp2_with fail
       try rw [Exit.noGoto_ret]
       go_ret2
       exact ⟨_,_,C,rfl,HKB.out,HCL.out,HBE.out⟩
      ·have HLS:=Lib.hid (hLp.less rfl)
       have HSB:=Lib.hid hLp.sub
       have HIN:=Lib.hid hLp.inv
       have HKE:=Lib.hid hKN
       have HBE:=Lib.hid hB
       clear hKN hLp hB
       go_wp2_with fail
       go_roundg (Tm.rem (Tm.accN l) C)
       case measure=>have h1:=HREM.out;have h2:=HLS.out;omega
       case rel=>exact ⟨_,_,C,Nat.le_refl _,HKE.out,HIN.out,fun t ht=>HSB.out _ (HHS1.out t ht),HBE.out⟩
     have hok:=hLp.inv.ok HV.out C[j] (List.getElem_mem hjn)
     obtain ⟨g,cap,hvg,⟨hgb,hgc⟩,_,hget⟩:=hKN.out.get (by omega)
     have hel:=hKN.out.len
     obtain ⟨c0,c1,c2,htj,hcj⟩:=hget j (by omega) hjn
     have HPA:=Lib.hid (parts_any (w2.heap.size + 1) w2.heap.size C C[j] es[j].an es[j].nn es[j].cc wr _ htj hcj hok.1 (HE2.out.below hB) (hKN.kb (by omega)) (by omega))
     generalize es[j]=ej at *
     cases hvg
     have HKN4:=Lib.hid hKN
     have HLP:=Lib.hid hLp
     have HB4:=Lib.hid hB
     have hjn':(j:Int) < (C.length:Int):=by omega
     have HCJ:Hid (C[j] ∈ C):=List.getElem_mem hjn
     have HPE:Hid (Tm.parts C C[j]=Tm.parts C C[j]):=rfl
     clear hKN hLp hB hget htj hcj hok
     generalize hPd:Tm.parts C C[j]=P at *
     have HPd:=Lib.hid hPd
     clear hPd HPE
     go_wp2_with fail
     refine HPA.out.mono ?_
     rintro e w6 ⟨pa,pn,pc,rfl,hTLp,hw6⟩
     have hpn:=hTLp.2.1
     have HPN:=Lib.hid hTLp.1
     have HTP:=Lib.hid hTLp
     have HKN6:=Lib.hid (HKN4.out.pure hw6)
     have HB6:=Lib.hid (HB4.out.trans (hw6.mono HB4.out.size))
     clear hTLp hw6 HPA c0 c1 c2 k0 HKN4 HB4
     go_wp2_with fail
     go_loopw [9,59] (fun g i W=>∃ (gr':Bool) (q:Nat) (v:Value) (es:List Elem) (C':List Tm),g=.bool gr'∧i=.int .i64 q∧q≤pn∧KN W (w2.heap.size + 2) (w2.heap.size + 1) w2.heap.size v es C'∧TL (okV (w2.heap.size + 2) (w2.heap.size + 1) v) W P pa pn∧Lq l C1 C C' gr gr' j q P∧Below w2.heap.size w2 W) (fun _ i _=>pn - (intOf i).toNat)
     case atStart=>exact ⟨gr,0,_,_,_,rfl,rfl,by omega,HKN6.out,HTP.out,Lq.start HLP.out.inv,HB6.out⟩
     case round=>
      obtain ⟨gr',q,v,es,C',rfl,rfl,hq,hKN,hTP,hLq,hB⟩:=hrel
      have hCl':C'.length≤400:=by have h1:=hLq.inv.len;have h2:=HA.out;omega
      by_cases hqn:q < pn
      ·have hql:q < P.length:=by have:=HPN.out;omega
       obtain ⟨b,o,an,nn,cc,hea,hb,c0,c1,c2,ht⟩:=hTP.2.2 q hql
       subst hea
       have PA:=pure_alloc wr (.cells #[.int .i64 P[q].op,.int .i64 P[q].num,.slice an nn cc] 28)
       have hLn:=hLq.step HCJ.out HPd.out.symm hql
       have hokq:=(hLn.inv.ok HV.out) P[q] (Tm.put_mem.2 (.inr rfl))
       have HLN':=Lib.hid hLn
       have HTP1:=Lib.hid (hTP.below PA)
       have HB1':=Lib.hid (hB.trans (PA.mono hB.size))
       have HAD:=Lib.hid (add_any (w2.heap.size + 2) (w2.heap.size + 1) w2.heap.size v es C' P[q] an nn cc _ (hKN.pure PA) (ht.below PA) hb.2 hokq.1 (HE2.out.below HB1'.out) (by omega) (by omega))
       clear hKN hTP hLq hB ht PA hLn hokq hb
       generalize P[q]=k at *
       have hqlt:(q:Int) < pn:=by omega
       go_wp2_with fail
       refine HAD.out.mono ?_
       rintro e w8 ⟨v8,es8,rfl,hKN8,hkp,hb8⟩
       have HKN8:Hid (KN w8 (w2.heap.size + 2) (w2.heap.size + 1) w2.heap.size v8 es8 (Tm.put C' k)):=hKN8
       have HTP8:=Lib.hid (HTP1.out.keep hkp)
       have HB8:=Lib.hid (HB1'.out.trans (hb8 w2.heap.size (by omega) (Nat.le_refl _)))
       clear hKN8 hkp hb8 HAD HTP1 HB1' c0 c1 c2
       cases hdk:decide (k ∉ C')
       ·rw [hdk] at HLN'
        clear hdk
        go_wp2_with fail
        go_roundw
        case rel=>exact ⟨_,q + 1,v8,es8,_,rfl,by go_num,by omega,HKN8.out,HTP8.out,HLN'.out,HB8.out⟩
        case measure=>simp [intOf];omega
       ·rw [hdk] at HLN'
        clear hdk
        go_wp2_with fail
        go_roundw
        case rel=>exact ⟨_,q + 1,v8,es8,_,rfl,by go_num,by omega,HKN8.out,HTP8.out,HLN'.out,HB8.out⟩
        case measure=>simp [intOf];omega
      have hqn':¬ ((q:Int) < pn):=by omega
      have hqe:q=P.length:=by have:=HPN.out;omega
      have HLP2:Hid (Lp l C1 C' gr' (j + 1)):=by
       rw [hqe] at hLq
       exact Lq.done HLP.out hjn HPd.out.symm hLq
      have hjC:j + 1≤C'.length:=by
       obtain ⟨h1,_⟩:=hLq.get j hjn
       omega
      have hc4:¬ ((400:Int) < (C'.length:Int)):=by omega
      obtain ⟨va,vc,hvv⟩:=own_form hKN.out.row
      subst hvv
      have k0:=cell_of_arr hKN.blk 0
      simp at k0
      have HKN9:=Lib.hid hKN
      have HB9:=Lib.hid hB
      clear hKN hTP hLq hB hqe
      go_wp2_with fail
      go_roundw
      case rel=>exact ⟨gr',j + 1,_,es,C',rfl,by go_num,hjC,HKN9.out,HLP2.out,HB9.out⟩
      case measure=>simp [intOf];omega
end Go.Proofs.YtkgbjoepjcenlaaDoor
namespace Go.Proofs.YtkgbjoepjcenlaaDoor
open Go.RowKit Go.Maps
def DPost (l:List Tm) (g:Tm) (w:World) (e:Ending) (w':World):Prop:=∃ C,Tm.IsCl l C∧e=.returned (.tuple #[.bool (Tm.builds C (Tm.normal g)),.int .i64 0])∧Below w.heap.size w w'
set_option maxHeartbeats 800000 in
theorem derives_any (l:List Tm) (a:Option Addr) (n c:Nat) (g:Tm) (ga:Option Addr) (gn gc:Nat) (w:World) (ok ok':Nat→Prop) (hTL:TL ok w l a n) (hTG:TR ok' w g ga gn) (hv:∀ t ∈ l,Tm.valid t=true) (hg:Tm.valid g=true) (hl:l.length≤60) (hA:(Tm.accN l).length≤400) (hE:Env w):
 Calls Tryd.prog 10 #[.slice a n c,.agg #[.int .i64 g.op,.int .i64 g.num,.slice ga gn gc]] w (DPost l g w):=by
 have P1:=pure_alloc w (.cells #[.int .i64 g.op,.int .i64 g.num,.slice ga gn gc] 28)
 have N1:=alloc_new w (.cells #[.int .i64 g.op,.int .i64 g.num,.slice ga gn gc] 28)
 have HTL:=Lib.hid (hTL.below P1)
 have HTG:=Lib.hid (hTG.below P1)
 have HE:=Lib.hid (hE.below P1)
 have HV:=Lib.hid hv
 have HG:=Lib.hid hg
 have HL:=Lib.hid hl
 have HA:=Lib.hid hA
 have hvn:=Tm.valid_normal hg
 have hsg:g.size≤2000:=by simp [Tm.valid] at hg;exact hg.1
 have hsn:(Tm.normal g).size≤2000:=by simp [Tm.valid] at hvn;exact hvn.1
 have HWN:=Lib.hid (Tm.valid_wf hvn)
 clear hTL hTG hE hv hg hl hA hvn
 go_enter Tryd.func10,Tryd.ntmps10
 go_upto_region 1 with fail
 generalize (w.alloc (.cells #[.int .i64 g.op,.int .i64 g.num,.slice ga gn gc] 28))=w1 at *
 have HP1:=Lib.hid P1
 have HN1:=Lib.hid N1
 have x0:=cell_of_arr N1 0
 have x1:=cell_of_arr N1 1
 have x2:=cell_of_arr N1 2
 simp at x0 x1 x2
 clear P1 N1
 go_wp2_with fail
 refine (valid_any g ga gn gc w1 _ HTG.out).mono ?_
 rintro e w2 ⟨rfl,hw2⟩
 rw [HG.out]
 have HP2:=Lib.hid (pure_trans HP1.out hw2)
 have HTL2:=Lib.hid (HTL.out.below hw2)
 have HTG2:=Lib.hid (HTG.out.below hw2)
 have HE2:=Lib.hid (HE.out.below hw2)
 have HN2:=Lib.hid (Below.keep hw2 HN1.out (lt_of_block HN1.out))
 clear hw2 x0 x1 x2 HP1 HTL HTG HE HN1
 go_wp2_with fail
 refine (closed_any l a n c w2 _ HTL2.out HV.out HL.out HA.out HE2.out).mono ?_
 rintro e w3 ⟨K,M,C,rfl,hKB,hCl,hw3⟩
 have HP3:=Lib.hid (pure_trans HP2.out hw3)
 have HTG3:=Lib.hid (HTG2.out.below hw3)
 have HE3:=Lib.hid (HE2.out.below hw3)
 have HKB:=Lib.hid hKB
 have HCL:=Lib.hid hCl
 have N3:=Below.keep hw3 HN2.out (lt_of_block HN2.out)
 clear hw3 hKB hCl HP2 HTL2 HTG2 HE2 HN2
 have x0:=cell_of_arr N3 0
 have x1:=cell_of_arr N3 1
 have x2:=cell_of_arr N3 2
 simp at x0 x1 x2
 clear N3
 go_wp2_with fail
 refine (normal_any g.size g ga gn gc w3 _ (Nat.le_refl _) HTG3.out (by omega)).mono ?_
 rintro e w4 ⟨ra,rn,rc,rfl,⟨hTR,hrc⟩,hw4⟩
 have HP4:=Lib.hid (pure_trans HP3.out hw4)
 have HBA:=Lib.hid (builds_any K M C (Tm.normal g).size (Tm.normal g) ra rn rc w4 _ (Nat.le_refl _) hTR HWN.out (HE3.out.below hw4) (HKB.out.below hw4) (by omega))
 clear hw4 hTR x0 x1 x2
 go_wp2_with fail
 refine HBA.out.mono ?_
 rintro e w5 ⟨rfl,hw5⟩
 have HP5:=Lib.hid (pure_trans HP4.out hw5)
 clear hw5 HBA
 go_wp2_with fail
 go_ret2
 exact ⟨C,HCL.out,rfl,HP5.out⟩
theorem name_any (q:Int) (w:World):Calls Tryd.prog 14 #[.int .i64 q] w fun e w'=>e=.returned (.agg #[.int .i64 1,.int .i64 q,.slice none 0 0])∧Below w.heap.size w w':=by
 have P1:=Lib.hid (pure_alloc w (.cells #[.int .i64 1,.int .i64 q,.slice none 0 0] 28))
 have N1:=alloc_new w (.cells #[.int .i64 1,.int .i64 q,.slice none 0 0] 28)
 go_enter Tryd.func14,Tryd.ntmps14
 go_wp2_with fail
 generalize w.alloc (.cells #[.int .i64 1,.int .i64 q,.slice none 0 0] 28)=w1 at *
 have p0:=cell_of_arr N1 0
 have p1:=cell_of_arr N1 1
 have p2:=cell_of_arr N1 2
 simp at p0 p1 p2
 refine bodyPost_ret (v:=.agg #[.int .i64 1,.int .i64 q,.slice none 0 0]) (by simp [results,Tryd.results14,go_sem,p0,p1,p2]) rfl ?_
 exact ⟨rfl,P1.out⟩
theorem tr_name (ok:Nat→Prop) (w:World) (q:Int):TR ok w (Tm.mk 1 q []) none 0:=TR_iff.2 (TL.nil _ _ _)
set_option maxHeartbeats 400000 in
theorem print_any (t:Tm) (a:Option Addr) (n c:Nat) (w:World) (ok:Nat→Prop) (hT:TR ok w t a n) (hv:Tm.valid t=true) (hE:Env w):
 Calls Tryd.prog 23 #[.agg #[.int .i64 t.op,.int .i64 t.num,.slice a n c]] w fun e w'=>e=.returned (Str (Tm.text t))∧Below w.heap.size w w':=by
 have P1:=pure_alloc w (.cells #[.int .i64 t.op,.int .i64 t.num,.slice a n c] 28)
 have N1:=alloc_new w (.cells #[.int .i64 t.op,.int .i64 t.num,.slice a n c] 28)
 have HT:=Lib.hid (hT.below P1)
 have HE:=Lib.hid (hE.below P1)
 have HV:=Lib.hid hv
 have hs:t.size≤2000:=by simp [Tm.valid] at hv;exact hv.1
 clear hT hE hv
 go_enter Tryd.func23,Tryd.ntmps23
 go_upto_region 1 with fail
 generalize w.alloc (.cells #[.int .i64 t.op,.int .i64 t.num,.slice a n c] 28)=w1 at *
 have HP1:=Lib.hid P1
 have HN1:=Lib.hid N1
 have x0:=cell_of_arr N1 0
 have x1:=cell_of_arr N1 1
 have x2:=cell_of_arr N1 2
 simp at x0 x1 x2
 clear P1 N1
 go_wp2_with fail
 refine (valid_any t a n c w1 _ HT.out).mono ?_
 rintro e w2 ⟨rfl,hw2⟩
 rw [HV.out]
 have HP2:=Lib.hid (pure_trans HP1.out hw2)
 have HT2:=Lib.hid (HT.out.below hw2)
 have HE2:=Lib.hid (HE.out.below hw2)
 have N2:=Below.keep hw2 HN1.out (lt_of_block HN1.out)
 clear hw2 x0 x1 x2
 have x0:=cell_of_arr N2 0
 have x1:=cell_of_arr N2 1
 have x2:=cell_of_arr N2 2
 simp at x0 x1 x2
 clear N2
 go_wp2_with fail
 refine (text_any t.size t a n c w2 _ (Nat.le_refl _) HT2.out (Tm.valid_wf HV.out) HE2.out (by omega)).mono ?_
 rintro e w3 ⟨rfl,hw3⟩
 have HP3:=Lib.hid (pure_trans HP2.out hw3)
 clear hw3 x0 x1 x2
 go_wp2_with fail
 go_ret
 exact ⟨rfl,HP3.out⟩
end Go.Proofs.YtkgbjoepjcenlaaDoor
namespace Go.Proofs.YtkgbjoepjcenlaaDoor
open Go.RowKit
theorem tname_any (q:Int) (w:World):Calls Tryd.prog 45 #[.int .i64 q] w fun e w'=>e=.returned (.agg #[.int .i64 1,.int .i64 q,.slice none 0 0])∧Below w.heap.size w w':=by
 have P1:=Lib.hid (pure_alloc w (.cells #[.int .i64 1,.int .i64 q,.slice none 0 0] 28))
 have N1:=alloc_new w (.cells #[.int .i64 1,.int .i64 q,.slice none 0 0] 28)
 go_enter Tryd.func45,Tryd.ntmps45
 go_wp2_with fail
 generalize w.alloc (.cells #[.int .i64 1,.int .i64 q,.slice none 0 0] 28)=w1 at *
 have p0:=cell_of_arr N1 0
 have p1:=cell_of_arr N1 1
 have p2:=cell_of_arr N1 2
 simp at p0 p1 p2
 refine bodyPost_ret (v:=.agg #[.int .i64 1,.int .i64 q,.slice none 0 0]) (by simp [results,Tryd.results45,go_sem,p0,p1,p2]) rfl ?_
 exact ⟨rfl,P1.out⟩
theorem node_any (o:Int) (a:Option Addr) (n c:Nat) (w:World):Calls Tryd.prog 47 #[.int .i64 o,.slice a n c] w fun e w'=>e=.returned (.agg #[.int .i64 o,.int .i64 0,.slice a n c])∧Below w.heap.size w w':=by
 have P1:=Lib.hid (pure_alloc w (.cells #[.int .i64 o,.int .i64 0,.slice a n c] 28))
 have N1:=alloc_new w (.cells #[.int .i64 o,.int .i64 0,.slice a n c] 28)
 go_enter Tryd.func47,Tryd.ntmps47
 go_wp2_with fail
 generalize w.alloc (.cells #[.int .i64 o,.int .i64 0,.slice a n c] 28)=w1 at *
 have p0:=cell_of_arr N1 0
 have p1:=cell_of_arr N1 1
 have p2:=cell_of_arr N1 2
 simp at p0 p1 p2
 refine bodyPost_ret (v:=.agg #[.int .i64 o,.int .i64 0,.slice a n c]) (by simp [results,Tryd.results47,go_sem,p0,p1,p2]) rfl ?_
 exact ⟨rfl,P1.out⟩
end Go.Proofs.YtkgbjoepjcenlaaDoor
namespace Go.Proofs.YtkgbjoepjcenlaaDoor
namespace Tm
def nm (n:Int):Tm:=mk 1 n []
def pair (a b:Tm):Tm:=mk 2 0 [a,b]
def hash (a:Tm):Tm:=mk 3 0 [a]
def seal4 (a b c d:Tm):Tm:=mk 4 0 [a,b,c,d]
def sign (a b:Tm):Tm:=mk 5 0 [a,b]
def share (a b:Int):Tm:=mk 7 0 [nm a,nm b]
def kdf (k:Tm) (n:Int) (c:Tm):Tm:=mk 8 0 [k,pair (nm n) c]
section
variable (R I:Bool) (m x y i r:Int)
def eci:Tm:=pair (nm 40) (pub (nm i))
def ecr:Tm:=pair (nm 41) (pub (nm r))
def em1:Tm:=pair (nm (10 + m)) (pair (nm 20) (pair (pub (nm x)) (nm 30)))
def eth2:Tm:=hash (pair (pub (nm y)) (hash (em1 m x)))
def eprk2:Tm:=kdf (share x y) 50 (eth2 m x y)
def eprk3:Tm:=if R then kdf (pair (eprk2 m x y) (share x r)) 1 (eth2 m x y) else eprk2 m x y
def emac2:Tm:=kdf (eprk3 R m x y r) 2 (pair (eth2 m x y) (ecr r))
def eproof2:Tm:=if R then emac2 R m x y r else sign (nm r) (pair (eth2 m x y) (pair (ecr r) (emac2 R m x y r)))
def ep2:Tm:=pair (nm 31) (pair (ecr r) (eproof2 R m x y r))
def em2:Tm:=pair (pub (nm y)) (seal4 (kdf (eprk2 m x y) 0 (eth2 m x y)) (nm 0) (nm 0) (ep2 R m x y r))
def eth3:Tm:=hash (pair (eth2 m x y) (pair (ep2 R m x y r) (ecr r)))
def eprk4:Tm:=if I then kdf (pair (eprk3 R m x y r) (share i y)) 5 (eth3 R m x y r) else eprk3 R m x y r
def emac3:Tm:=kdf (eprk4 R I m x y i r) 6 (pair (eth3 R m x y r) (eci i))
def eproof3:Tm:=if I then emac3 R I m x y i r else sign (nm i) (pair (eth3 R m x y r) (pair (eci i) (emac3 R I m x y i r)))
def ep3:Tm:=pair (eci i) (eproof3 R I m x y i r)
def em3:Tm:=seal4 (kdf (eprk3 R m x y r) 3 (eth3 R m x y r)) (kdf (eprk3 R m x y r) 4 (eth3 R m x y r)) (eth3 R m x y r) (ep3 R I m x y i r)
def eth4:Tm:=hash (pair (eth3 R m x y r) (pair (ep3 R I m x y i r) (eci i)))
def eres:Tm:=kdf (eprk4 R I m x y i r) 7 (eth4 R I m x y i r)
def em4:Tm:=seal4 (kdf (eprk4 R I m x y i r) 8 (eth4 R I m x y i r)) (kdf (eprk4 R I m x y i r) 9 (eth4 R I m x y i r)) (eth4 R I m x y i r) (nm 0)
end
mutual
def ren (f:Int→Int):Tm→Tm | mk o n ks=>mk o (if o=1 then f n else n) (rens f ks)
def rens (f:Int→Int):List Tm→List Tm | []=>[] | k :: ks=>ren f k :: rens f ks
end
theorem rens_length (f:Int→Int):∀ l:List Tm,(rens f l).length=l.length
 | []=>rfl
 | k :: ks=>by simp [rens,rens_length f ks]
mutual
theorem size_ren (f:Int→Int):∀ t:Tm,(ren f t).size=t.size
 | mk o n ks=>by simp [ren,size,sizes_rens f ks]
theorem sizes_rens (f:Int→Int):∀ l:List Tm,sizes (rens f l)=sizes l
 | []=>rfl
 | k :: ks=>by simp [rens,sizes,size_ren f k,sizes_rens f ks]
end
mutual
theorem shaped_ren (f:Int→Int) (hf:∀ n,0≤n→n≤1000→0≤f n∧f n≤1000):∀ (t:Tm) (d:Nat),shaped t d=true→shaped (ren f t) d=true
 | mk o n ks,0,h=>by simp [shaped] at h
 | mk o n ks,d + 1,h=>by
   simp only [shaped,Bool.and_eq_true] at h
   simp only [ren,shaped,Bool.and_eq_true,rens_length]
   refine ⟨?_,shapedL_rens f hf ks d h.2⟩
   have h1:=h.1
   by_cases ho:o=1
   ·subst ho
    obtain ⟨a1,a2,a3⟩:=okN_name h1
    have:=hf n a2 a3
    simp [okN,arity,a1,this]
   ·simpa [okN,ho] using h1
theorem shapedL_rens (f:Int→Int) (hf:∀ n,0≤n→n≤1000→0≤f n∧f n≤1000):∀ (l:List Tm) (d:Nat),shapedL l d=true→shapedL (rens f l) d=true
 | [],_,_=>by simp [rens,shapedL]
 | k :: ks,d,h=>by
   simp only [shapedL,Bool.and_eq_true] at h
   simp only [rens,shapedL,Bool.and_eq_true]
   exact ⟨shaped_ren f hf k d h.1,shapedL_rens f hf ks d h.2⟩
end
theorem valid_ren (f:Int→Int) (hf:∀ n,0≤n→n≤1000→0≤f n∧f n≤1000) {t:Tm} (h:valid t=true):valid (ren f t)=true:=by
 simp [valid] at h ⊢
 exact ⟨by rw [size_ren];exact h.1,shaped_ren f hf t 40 h.2⟩
def names4 (x y i r n:Int):Int:=if n=100 then x else if n=101 then y else if n=102 then i else if n=103 then r else n
def allOk (m:Int) (R I:Bool):Bool:=valid (em1 m 100) && valid (em2 R m 100 101 103) && valid (em3 R I m 100 101 102 103) && valid (em4 R I m 100 101 102 103) && valid (eres R I m 100 101 102 103)
theorem all_ok:allOk 0 false false=true∧allOk 1 true false=true∧allOk 2 false true=true∧allOk 3 true true=true:=by decide +kernel
def addP (E:List Tm) (p:Tm):List Tm:=if p ∈ E then E else E ++ [p]
def addsP (E l:List Tm):List Tm:=l.foldl addP E
def stepP (C:List Tm):List Tm:=C.foldl (fun D t=>addsP D (parts D t)) C
def closeP:Nat→List Tm→List Tm
 | 0,C=>C
 | n + 1,C=>if (stepP C).length=C.length then C else closeP n (stepP C)
def closedB (C:List Tm):Bool:=C.all fun t=>(parts C t).all fun p=>decide (p ∈ C)
theorem closedB_iff {C:List Tm} (h:closedB C=true):Closed C:=fun t ht p hp=>by
 simp only [closedB,List.all_eq_true,decide_eq_true_eq] at h
 exact h t ht p hp
theorem addP_mem {E:List Tm} {p x:Tm}:x ∈ addP E p↔x ∈ E∨x=p:=by
 unfold addP;split
 ·rename_i h;constructor
  ·exact .inl
  ·rintro (h1 | rfl)
   ·exact h1
   ·exact h
 ·simp
theorem addsP_mem {l:List Tm}:∀ {E:List Tm} {x:Tm},x ∈ addsP E l↔x ∈ E∨x ∈ l:=by
 induction l with
 | nil=>simp [addsP]
 | cons p l ih=>
   intro E x
   have:= @ih (addP E p) x
   simp only [addsP,List.foldl_cons] at this ⊢
   rw [this,addP_mem]
   simp [or_assoc]
theorem stepP_least {Q:Tm→Prop} (hQ:∀ D:List Tm,(∀ x ∈ D,Q x)→∀ t ∈ D,∀ p ∈ parts D t,Q p) {C:List Tm} (hC:∀ x ∈ C,Q x):∀ x ∈ stepP C,Q x:=by
 have go:∀ (l D:List Tm),(∀ x ∈ l,x ∈ D)→(∀ x ∈ D,Q x)→∀ x ∈ l.foldl (fun D t=>addsP D (parts D t)) D,Q x:=by
  intro l
  induction l with
  | nil=>intro D _ h x hx;exact h x hx
  | cons t l ih=>
    intro D hl h x hx
    refine ih (addsP D (parts D t)) (fun y hy=>addsP_mem.2 (.inl (hl y (by simp [hy])))) (fun y hy=>?_) x hx
    rcases addsP_mem.1 hy with hy | hy
    ·exact h y hy
    ·exact hQ D h t (hl t (by simp)) y hy
 exact go C C (fun _ h=>h) hC
theorem stepP_has {C:List Tm} {x:Tm} (h:x ∈ C):x ∈ stepP C:=by
 have go:∀ (l D:List Tm),x ∈ D→x ∈ l.foldl (fun D t=>addsP D (parts D t)) D:=by
  intro l
  induction l with
  | nil=>intro D h;exact h
  | cons t l ih=>intro D h;exact ih _ (addsP_mem.2 (.inl h))
 exact go C C h
theorem closeP_has:∀ (n:Nat) {C:List Tm} {x:Tm},x ∈ C→x ∈ closeP n C
 | 0,_,_,h=>h
 | n + 1,_,_,h=>by
   simp only [closeP];split
   ·exact h
   ·exact closeP_has n (stepP_has h)
theorem closeP_least {Q:Tm→Prop} (hQ:∀ D:List Tm,(∀ x ∈ D,Q x)→∀ t ∈ D,∀ p ∈ parts D t,Q p):∀ (n:Nat) {C:List Tm},(∀ x ∈ C,Q x)→∀ x ∈ closeP n C,Q x
 | 0,_,h=>h
 | n + 1,_,h=>by
   simp only [closeP];split
   ·exact h
   ·exact closeP_least hQ n (stepP_least hQ h)
theorem closeP_isCl {l:List Tm} {n:Nat} (h:closedB (closeP n (addsP [] (l.map normal)))=true):IsCl l (closeP n (addsP [] (l.map normal))):=
 ⟨fun t ht=>closeP_has n (addsP_mem.2 (.inr (by simpa using ⟨t,ht,rfl⟩))),closedB_iff h,fun Q h1 h2=>closeP_least h2 n fun x hx=>by
  rcases addsP_mem.1 hx with hx | hx
  ·simp at hx
  ·simp only [List.mem_map] at hx
   obtain ⟨t,ht,rfl⟩:=hx
   exact h1 t ht⟩
def msgs (k:Nat):List Tm:=
 let R:=k % 2==1;let I:=decide (2≤k)
 [normal (em1 k 100),normal (em2 R k 100 101 103),normal (em3 R I k 100 101 102 103),normal (em4 R I k 100 101 102 103)]
def resOf (k:Nat):Tm:=normal (eres (k % 2==1) (decide (2≤k)) k 100 101 102 103)
def leaks (b0 b1 b2 b3:Bool):List Tm:=(if b0 then [nm 100] else []) ++ (if b1 then [nm 101] else []) ++ (if b2 then [nm 102] else []) ++ (if b3 then [nm 103] else [])
def wantB (k:Nat) (x y i r:Bool):Bool:=(!x && !y) || (k % 2==1 && !x && !r) || (decide (2≤k) && !i && !y)
def clOf (k:Nat) (l:List Tm):List Tm:=closeP 20 (addsP [] ((l ++ msgs k).map normal))
def secB (k:Nat) (b0 b1 b2 b3:Bool):Bool:=closedB (clOf k (leaks b0 b1 b2 b3)) && (builds (clOf k (leaks b0 b1 b2 b3)) (normal (resOf k))== !wantB k b0 b1 b2 b3)
theorem sec_all:∀ k,k < 4→∀ b0 b1 b2 b3,secB k b0 b1 b2 b3=true:=by decide +kernel
theorem msgs_acc:∀ k,k < 4→(accN (msgs k)).length≤200:=by decide +kernel
theorem msgs_valid:∀ k,k < 4→(msgs k).all valid=true∧valid (resOf k)=true:=by decide +kernel
theorem sec_builds {k:Nat} (hk:k < 4) (b0 b1 b2 b3:Bool) {C:List Tm} (hC:IsCl (leaks b0 b1 b2 b3 ++ msgs k) C):builds C (normal (resOf k))= !wantB k b0 b1 b2 b3:=by
 have h:=sec_all k hk b0 b1 b2 b3
 simp only [secB,Bool.and_eq_true,beq_iff_eq] at h
 rw [hC.builds_eq (closeP_isCl h.1),← h.2];rfl
theorem em_ren (k:Nat) (hk:k < 4) (x y i r:Int):(em1 k x=ren (names4 x y i r) (em1 k 100)∧em2 (k % 2==1) k x y r=ren (names4 x y i r) (em2 (k % 2==1) k 100 101 103)∧em3 (k % 2==1) (decide (2≤k)) k x y i r=ren (names4 x y i r) (em3 (k % 2==1) (decide (2≤k)) k 100 101 102 103)∧em4 (k % 2==1) (decide (2≤k)) k x y i r=ren (names4 x y i r) (em4 (k % 2==1) (decide (2≤k)) k 100 101 102 103))∧eres (k % 2==1) (decide (2≤k)) k x y i r=ren (names4 x y i r) (eres (k % 2==1) (decide (2≤k)) k 100 101 102 103):=by
 rcases (show k=0∨k=1∨k=2∨k=3 by omega) with rfl | rfl | rfl | rfl
 all_goals exact ⟨⟨rfl,rfl,rfl,rfl⟩,rfl⟩
theorem names4_bd {x y i r:Int} (hx:0≤x∧x≤1000) (hy:0≤y∧y≤1000) (hi:0≤i∧i≤1000) (hr:0≤r∧r≤1000) (n:Int) (h0:0≤n) (h1:n≤1000):0≤names4 x y i r n∧names4 x y i r n≤1000:=by
 unfold names4
 split
 ·exact hx
 ·split
  ·exact hy
  ·split
   ·exact hi
   ·split
    ·exact hr
    ·exact ⟨h0,h1⟩
theorem em_valid (k:Nat) (hk:k < 4) {x y i r:Int} (hx:0≤x∧x≤1000) (hy:0≤y∧y≤1000) (hi:0≤i∧i≤1000) (hr:0≤r∧r≤1000):
 valid (em1 k x)=true∧valid (em2 (k % 2==1) k x y r)=true∧valid (em3 (k % 2==1) (decide (2≤k)) k x y i r)=true∧valid (em4 (k % 2==1) (decide (2≤k)) k x y i r)=true∧valid (eres (k % 2==1) (decide (2≤k)) k x y i r)=true:=by
 obtain ⟨⟨e1,e2,e3,e4⟩,e5⟩:=em_ren k hk x y i r
 have hf:=names4_bd hx hy hi hr
 have ok:allOk k (k % 2==1) (decide (2≤k))=true:=by
  rcases (show k=0∨k=1∨k=2∨k=3 by omega) with rfl | rfl | rfl | rfl
  ·exact all_ok.1
  ·exact all_ok.2.1
  ·exact all_ok.2.2.1
  ·exact all_ok.2.2.2
 simp only [allOk,Bool.and_eq_true] at ok
 obtain ⟨⟨⟨⟨o1,o2⟩,o3⟩,o4⟩,o5⟩:=ok
 exact ⟨e1 ▸ valid_ren _ hf o1,e2 ▸ valid_ren _ hf o2,e3 ▸ valid_ren _ hf o3,e4 ▸ valid_ren _ hf o4,e5 ▸ valid_ren _ hf o5⟩
end Tm
end Go.Proofs.YtkgbjoepjcenlaaDoor
namespace Go.Proofs.YtkgbjoepjcenlaaDoor
open Go.RowKit
namespace Tm
def tup:List Tm→Tm
 | []=>mk 2 0 []
 | [a]=>a
 | a :: b :: l=>pair a (tup (b :: l))
end Tm
def UPost (ok:Nat→Prop) (t:Tm) (w:World) (e:Ending) (w':World):Prop:=∃ a n c,e=.returned (.agg #[.int .i64 t.op,.int .i64 t.num,.slice a n c])∧(TR (fun k=>ok k∨w.heap.size≤k) w' t a n∧n≤c)∧Below w.heap.size w w'
set_option maxHeartbeats 1600000 in
theorem tuple_any (l:List Tm):∀ (x:Tm) (a:Option Addr) (n c:Nat) (w:World) (ok:Nat→Prop),TL ok w (x :: l) a n→n≤c→Calls Tryd.prog 48 #[.slice a n c] w (UPost ok (Tm.tup (x :: l)) w):=by
 induction l with
 | nil=>
   intro x a n c w ok hTL hc
   have hn1:n=1:=hTL.1
   subst hn1
   obtain ⟨b,o,an,nn,cc,hea,hb,c0,c1,c2,ht⟩:=hTL.2.2 0 (by simp)
   subst hea
   simp at c0 c1 c2
   have hbl:=lt_of_cell c0
   have P1:=pure_alloc w (.cells #[.int .i64 0,.int .i64 0,.slice none 0 0] 28)
   have HP1:=Lib.hid P1
   have HR:=Lib.hid (alloc_new w (.cells #[.int .i64 0,.int .i64 0,.slice none 0 0] 28))
   have HT:=Lib.hid (show TR ok w x an nn from ht)
   have d0:=(P1.cell (p:=⟨b,o,none⟩) hbl).trans c0
   have d1:=(P1.cell (p:=⟨b,o + 1,none⟩) hbl).trans c1
   have d2:=(P1.cell (p:=⟨b,o + 2,none⟩) hbl).trans c2
   clear hTL ht P1
   go_enter Tryd.func48,Tryd.ntmps48
   go_upto_region 1 with fail
   generalize w.alloc (.cells #[.int .i64 0,.int .i64 0,.slice none 0 0] 28)=w1 at *
   have R1:=HR.out
   have r0:=cell_of_arr R1 0
   have r1:=cell_of_arr R1 1
   have r2:=cell_of_arr R1 2
   simp at r0 r1 r2
   have f0:=frozen_of_arr R1 0
   have f1:=frozen_of_arr R1 1
   have f2:=frozen_of_arr R1 2
   clear R1 c0 c1 c2
   go_wp2_with fail
   obtain ⟨S1,S2,S3⟩:=put3 HR.out (.int .i64 x.op) (.int .i64 x.num) (.slice an nn cc) _ rfl
   have p0:=cell_of_arr S1 0
   have p1:=cell_of_arr S1 1
   have p2:=cell_of_arr S1 2
   simp at p0 p1 p2
   refine bodyPost_ret (v:=.agg #[.int .i64 x.op,.int .i64 x.num,.slice an nn cc]) (by simp [results,Tryd.results48,go_sem,p0,p1,p2]) rfl ?_
   exact ⟨an,nn,cc,rfl,⟨HT.out.keep fun k hk hl=>⟨(S2 k (by omega)).trans (HP1.out.block k hl),.inl hk⟩,hb.2⟩,S3 _ _ (Nat.le_refl _) HP1.out⟩
 | cons y l ih=>
   intro x a n c w ok hTL hc
   have hn2:n=l.length + 2:=hTL.1
   obtain ⟨b,o,an,nn,cc,hea,hb,c0,c1,c2,ht⟩:=hTL.2.2 0 (by simp)
   subst hea
   simp at c0 c1 c2
   have hbl:=lt_of_cell c0
   have hnn:=hTL.2.1
   have P1:=pure_alloc w (.cells #[.int .i64 0,.int .i64 0,.slice none 0 0] 28)
   have HP1:=Lib.hid P1
   have HR:=Lib.hid (alloc_new w (.cells #[.int .i64 0,.int .i64 0,.slice none 0 0] 28))
   have HT:=Lib.hid (((show TR ok w x an nn from ht).imp (ok':=(fun k=>ok k∧k < w.heap.size)) fun k hk hl=>⟨hk,hl⟩).below P1)
   have HTD:=((hTL.imp (ok':=(fun k=>ok k∧k < w.heap.size)) fun k hk hl=>⟨hk,hl⟩).below P1).drop 1
   have HIH:Hid (∀ W:World,Below (w.alloc (.cells #[.int .i64 0,.int .i64 0,.slice none 0 0] 28)).heap.size (w.alloc (.cells #[.int .i64 0,.int .i64 0,.slice none 0 0] 28)) W→Calls Tryd.prog 48 #[.slice (some ⟨b,o + 3,none⟩) (n - 1) (c - 1)] W (UPost (fun k=>ok k∧k < w.heap.size) (Tm.tup (y :: l)) W)):=by
    show ∀ W:World,_→_
    intro W hW
    have:=HTD.below hW
    exact ih y _ _ _ W (fun k=>ok k∧k < w.heap.size) this (by omega)
   have d0:=(P1.cell (p:=⟨b,o,none⟩) hbl).trans c0
   have d1:=(P1.cell (p:=⟨b,o + 1,none⟩) hbl).trans c1
   have d2:=(P1.cell (p:=⟨b,o + 2,none⟩) hbl).trans c2
   have hne1:((n:Int)==1)=false:=by simp;omega
   have hc1:¬ c=1:=by omega
   have hl0:(0:Int) < (n:Int):=by omega
   have hl1:(1:Int)≤(n:Int):=by omega
   have hl2:0 < n:=by omega
   have hl3:1≤n:=by omega
   clear hTL ht P1 HTD ih c0 c1 c2
   have c0:=d0
   have c1:=d1
   have c2:=d2
   clear d0 d1 d2
   go_enter Tryd.func48,Tryd.ntmps48
   go_upto_region 1 with fail
   generalize w.alloc (.cells #[.int .i64 0,.int .i64 0,.slice none 0 0] 28)=w1 at *
   clear hn2
   go_upto_region 3 with fail
   refine wp_region_held_drew (S:=(fun W=>W.cell? ⟨b,o,none⟩=some (.int .i64 x.op)∧W.cell? ⟨b,o + 1,none⟩=some (.int .i64 x.num)∧W.cell? ⟨b,o + 2,none⟩=some (.slice an nn cc))) (by kernel_rfl) ⟨c0,c1,c2⟩ (fun hHeld=>?_)
   refine wpAnyH_take (i:=0) (v:=?_) rfl (by kernel_rfl) (by kernel_rfl) (by kernel_rfl) (fun _ _ _ h=>h) (Or.inl ⟨by rfl,?_⟩) hHeld ?_
   rotate_left
   ·(intro W hSw;(try dsimp only at hSw);go_simp;try with_reducible rfl)
   try simp only [Act.put,List.setIfInBounds_toArray,List.set_cons_zero,List.set_cons_succ,List.getElem_toArray,List.getElem_cons_succ,List.getElem_cons_zero]
   refine wpAnyH_take (i:=1) (v:=?_) rfl (by kernel_rfl) (by kernel_rfl) (by kernel_rfl) (fun _ _ _ h=>h) (Or.inl ⟨by rfl,?_⟩) hHeld ?_
   rotate_left
   ·(intro W hSw;(try dsimp only at hSw);go_simp;try with_reducible rfl)
   try simp only [Act.put,List.setIfInBounds_toArray,List.set_cons_zero,List.set_cons_succ,List.getElem_toArray,List.getElem_cons_succ,List.getElem_cons_zero]
   refine wpAnyH_take (i:=2) (v:=?_) rfl (by kernel_rfl) (by kernel_rfl) (by kernel_rfl) (fun _ _ _ h=>h) (Or.inl ⟨by rfl,?_⟩) hHeld ?_
   rotate_left
   ·(intro W hSw;(try dsimp only at hSw);go_simp;try with_reducible rfl)
   try simp only [Act.put,List.setIfInBounds_toArray,List.set_cons_zero,List.set_cons_succ,List.getElem_toArray,List.getElem_cons_succ,List.getElem_cons_zero]
   refine wpAnyH_take (i:=3) (v:=?_) rfl (by kernel_rfl) (by kernel_rfl) (by kernel_rfl) (fun _ _ _ h=>h) (Or.inl ⟨by rfl,?_⟩) hHeld ?_
   rotate_left
   ·(intro W hSw;(try dsimp only at hSw);go_simp;try with_reducible rfl)
   try simp only [Act.put,List.setIfInBounds_toArray,List.set_cons_zero,List.set_cons_succ,List.getElem_toArray,List.getElem_cons_succ,List.getElem_cons_zero]
   refine wpAnyH_take (i:=4) (v:=?_) rfl (by kernel_rfl) (by kernel_rfl) (by kernel_rfl) (fun _ _ _ h=>h) (Or.inl ⟨by rfl,?_⟩) hHeld ?_
   rotate_left
   ·(intro W hSw;(try dsimp only at hSw);go_simp;try with_reducible rfl)
   try simp only [Act.put,List.setIfInBounds_toArray,List.set_cons_zero,List.set_cons_succ,List.getElem_toArray,List.getElem_cons_succ,List.getElem_cons_zero]
   refine wpAnyH_ready (rs:=[5]) (by kernel_rfl) (by simp) ?_
   refine AllReadyH.cons rfl (fun K1 hK1=>?_) AllReadyH.nil
   go_simp
   refine (HIH.out w1.drew (below_drewN (Below.refl _ _) 1)).mono ?_
   rintro e w2 ⟨ra,rn,rc,rfl,⟨hTR,hrc⟩,hw2⟩
   have hw2':Below w1.heap.size w1 w2:=(below_drewN (Below.refl _ _) 1:Below w1.heap.size w1 w1.drew).trans hw2
   have HT2:Hid (TR (fun k=>(ok k∧k < w.heap.size)∨w1.heap.size≤k) w2 (Tm.tup (y :: l)) ra rn):=hTR
   have HW2:=Lib.hid hw2'
   clear hTR hw2
   refine hK1.out _ _ ⟨(hw2'.cell (p:=⟨b,o,none⟩) (lt_of_cell c0)).trans c0,(hw2'.cell (p:=⟨b,o + 1,none⟩) (lt_of_cell c1)).trans c1,(hw2'.cell (p:=⟨b,o + 2,none⟩) (lt_of_cell c2)).trans c2⟩ (fun hHeld=>?_)
   clear hK1
   try simp only [Act.put,List.setIfInBounds_toArray,List.set_cons_zero,List.set_cons_succ,List.getElem_toArray,List.getElem_cons_succ,List.getElem_cons_zero]
   clear hw2'
   refine wpAnyH_ready (rs:=[6]) (by kernel_rfl) (by simp) ?_
   refine AllReadyH.cons rfl (fun K1 hK1=>?_) AllReadyH.nil
   go_simp
   have PB:=pure_alloc w2 (.cells #[.int .i64 x.op,.int .i64 x.num,.slice an nn cc,.int .i64 (Tm.tup (y :: l)).op,.int .i64 (Tm.tup (y :: l)).num,.slice ra rn rc] 28)
   have HN3:=Lib.hid (alloc_new w2 (.cells #[.int .i64 x.op,.int .i64 x.num,.slice an nn cc,.int .i64 (Tm.tup (y :: l)).op,.int .i64 (Tm.tup (y :: l)).num,.slice ra rn rc] 28))
   have HW3:=Lib.hid (pure_trans HW2.out PB)
   have HT3:=Lib.hid (HT2.out.below PB)
   refine hK1.out _ _ ⟨(HW3.out.cell (p:=⟨b,o,none⟩) (lt_of_cell c0)).trans c0,(HW3.out.cell (p:=⟨b,o + 1,none⟩) (lt_of_cell c1)).trans c1,(HW3.out.cell (p:=⟨b,o + 2,none⟩) (lt_of_cell c2)).trans c2⟩ (fun hHeld=>?_)
   clear hK1
   try simp only [Act.put,List.setIfInBounds_toArray,List.set_cons_zero,List.set_cons_succ,List.getElem_toArray,List.getElem_cons_succ,List.getElem_cons_zero]
   clear PB
   generalize w2.alloc (.cells #[.int .i64 x.op,.int .i64 x.num,.slice an nn cc,.int .i64 (Tm.tup (y :: l)).op,.int .i64 (Tm.tup (y :: l)).num,.slice ra rn rc] 28)=w3 at *
   refine wpAnyH_ready (rs:=[7]) (by kernel_rfl) (by simp) ?_
   refine AllReadyH.cons rfl (fun K1 hK1=>?_) AllReadyH.nil
   go_simp
   refine (node_any 2 _ _ _ w3).mono ?_
   rintro e w4 ⟨rfl,hw4⟩
   have HW4:=Lib.hid (pure_trans HW3.out hw4)
   have HT4:=Lib.hid (HT3.out.below hw4)
   have HN4:=Lib.hid (Below.keep hw4 HN3.out (lt_of_block HN3.out))
   have R4:=Below.keep HW4.out HR.out (lt_of_block HR.out)
   have r0:=cell_of_arr R4 0
   have r1:=cell_of_arr R4 1
   have r2:=cell_of_arr R4 2
   simp at r0 r1 r2
   have f0:=frozen_of_arr R4 0
   have f1:=frozen_of_arr R4 1
   have f2:=frozen_of_arr R4 2
   have HR4:=Lib.hid R4
   clear hw4 R4
   refine hK1.out _ _ ⟨(HW4.out.cell (p:=⟨b,o,none⟩) (lt_of_cell c0)).trans c0,(HW4.out.cell (p:=⟨b,o + 1,none⟩) (lt_of_cell c1)).trans c1,(HW4.out.cell (p:=⟨b,o + 2,none⟩) (lt_of_cell c2)).trans c2⟩ (fun hHeld=>?_)
   clear hK1
   try simp only [Act.put,List.setIfInBounds_toArray,List.set_cons_zero,List.set_cons_succ,List.getElem_toArray,List.getElem_cons_succ,List.getElem_cons_zero]
   refine wpAnyH_ready (rs:=[8]) (by kernel_rfl) (by simp) ?_
   refine AllReadyH.cons rfl (fun K1 hK1=>?_) AllReadyH.nil
   have hbR:w.heap.size≠b:=by have:=hbl;omega
   go_simp
   refine hK1.out _ _ ⟨by simpa [World.cell?_setCell_far,hbR] using (HW4.out.cell (p:=⟨b,o,none⟩) (lt_of_cell c0)).trans c0,by simpa [World.cell?_setCell_far,hbR] using (HW4.out.cell (p:=⟨b,o + 1,none⟩) (lt_of_cell c1)).trans c1,by simpa [World.cell?_setCell_far,hbR] using (HW4.out.cell (p:=⟨b,o + 2,none⟩) (lt_of_cell c2)).trans c2⟩ (fun hHeld=>?_)
   clear hK1
   try simp only [Act.put,List.setIfInBounds_toArray,List.set_cons_zero,List.set_cons_succ,List.getElem_toArray,List.getElem_cons_succ,List.getElem_cons_zero]
   refine wpAnyH_done (by kernel_rfl) ?_ _
   try simp only [Act.put,List.setIfInBounds_toArray,List.set_cons_zero,List.set_cons_succ,List.getElem_toArray,List.getElem_cons_succ,List.getElem_cons_zero]
   have HW5:=Lib.hid (pure_trans HP1.out HW4.out)
   obtain ⟨S1,S2,S3⟩:=put3 HR4.out (.int .i64 2) (.int .i64 0) (.slice (some ⟨w2.heap.size,0,none⟩) 2 2) _ rfl
   have hs12:=HW2.out.size
   have hs1:=lt_of_block HR.out
   have hN:=HN4.out
   have HTT:=HT4.out
   have HTX:=HT.out.below HW4.out
   have HPS:Hid (UPost ok (Tm.tup (x :: y :: l)) w (.returned (.agg #[.int .i64 2,.int .i64 0,.slice (some ⟨w2.heap.size,0,none⟩) 2 2])) (((w4.setCell ⟨w.heap.size,0,none⟩ (.int .i64 2)).setCell ⟨w.heap.size,1,none⟩ (.int .i64 0)).setCell ⟨w.heap.size,2,none⟩ (.slice (some ⟨w2.heap.size,0,none⟩) 2 2))):=by
    refine ⟨_,_,_,rfl,⟨TR_iff.2 ⟨rfl,by omega,fun j hj=>?_⟩,Nat.le_refl _⟩,S3 _ _ (Nat.le_refl _) HW5.out⟩
    have hj2:j < 2:=hj
    have hN':=(S2 w2.heap.size (by omega)).trans hN
    rcases (show j=0∨j=1 by omega) with rfl | rfl
    ·exact ⟨w2.heap.size,0,an,nn,cc,rfl,⟨.inr (by omega),hb.2⟩,cell_of_arr hN' 0,cell_of_arr hN' 1,cell_of_arr hN' 2,HTX.keep fun k hk hl=>⟨S2 k (by have h2:ok k∧k < w.heap.size:=hk;omega),.inl hk.1⟩⟩
    ·exact ⟨w2.heap.size,0,ra,rn,rc,rfl,⟨.inr (by omega),hrc⟩,cell_of_arr hN' 3,cell_of_arr hN' 4,cell_of_arr hN' 5,HTT.keep fun k hk hl=>⟨S2 k (by have h2:(ok k∧k < w.heap.size)∨w1.heap.size≤k:=hk;rcases h2 with h2 | h2 <;> omega),by have h2:(ok k∧k < w.heap.size)∨w1.heap.size≤k:=hk;rcases h2 with h2 | h2;exact .inl h2.1;exact .inr (by omega)⟩⟩
   have p0:=cell_of_arr S1 0
   have p1:=cell_of_arr S1 1
   have p2:=cell_of_arr S1 2
   simp at p0 p1 p2
   clear hHeld
   go_wp2_with fail
   refine bodyPost_ret (v:=.agg #[.int .i64 2,.int .i64 0,.slice (some ⟨w2.heap.size,0,none⟩) 2 2]) (by simp [results,Tryd.results48,go_sem,p0,p1,p2]) rfl ?_
   exact HPS.out
end Go.Proofs.YtkgbjoepjcenlaaDoor
