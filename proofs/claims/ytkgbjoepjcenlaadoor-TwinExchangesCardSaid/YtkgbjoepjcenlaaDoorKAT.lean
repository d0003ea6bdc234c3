/- Joined texts. -/
import Derived.Test.YtkgbjoepjcenlaaDoorKAO
import Derived.Test.YtkgbjoepjcenlaaDoorKAM
import Derived.Test.YtkgbjoepjcenlaaDoorKAL
set_option linter.unusedVariables false
set_option linter.unusedSimpArgs false
namespace Go.Proofs.YtkgbjoepjcenlaaDoor
open Go.RowKit Go.Maps
set_option maxHeartbeats 2000000 in
set_option maxRecDepth 100000 in
theorem secret_bad (k:Nat) (hk:k < 4) (ld:List Int) (la:Option Addr) (n cap:Nat) (w:World) (hI:Is w la n ld) (j0:Nat) (hj0:j0 < ld.length) (hgood:∀ j,j < j0→100≤ld.getD j 0∧ld.getD j 0≤103) (hbad:¬ (100≤ld.getD j0 0∧ld.getD j0 0≤103)):Calls Tryd.prog 29 #[.int .i64 (k:Int),.slice la n cap] w fun e w'=>e=.returned (.tuple #[.bool false,.int .i64 1])∧Below w.heap.size w w':=by
 have hk3:(k:Int)≤3:=by omega
 have hmm:= @run_makeMap Tryd.prog
 have HI:=Lib.hid hI
 have HG:=Lib.hid hgood
 have HBD:=Lib.hid hbad
 have HL:Hid (∀ j,j≤j0→∀ q ∈ ld.take j,100≤q∧q≤103):=fun j hj q hq=>by
  obtain ⟨i,hi,rfl⟩:=List.getElem_of_mem hq
  have hi2:i < j:=by rw [List.length_take] at hi;omega
  have:=hgood i (by omega)
  rw [List.getElem_take]
  rwa [List.getD_eq_getElem?_getD,List.getElem?_eq_getElem (by omega),Option.getD_some] at this
 have HJ:=Lib.hid hj0
 have hn:=hI.2.1
 clear hI hgood hbad hj0
 go_enter Tryd.func29,Tryd.ntmps29
 go_wp2_with fail
 have HO0:=Lib.hid (OutT.nil (w.alloc (.map #[] 0)) (w.heap.size + 1) (w.heap.size + 1) w.heap.size)
 have HM0:=Lib.hid (World.ownsMap_made (H:=Unit) w Tryd.prog 3 (plainElem Tryd.prog 4))
 have HB0:=Lib.hid (pure_alloc w (.map #[] 0))
 clear hmm
 go_loopw [23,6] (fun i v W=>SLoop w ld n i v W∧∃ j:Nat,i=.int .i64 j∧j≤j0) (fun i _ _=>n - (intOf i).toNat)
 case atStart=>exact ⟨⟨0,[],[],rfl,by omega,HO0.out,Names.nil,⟨0,_,HM0.out,by omega,MapI.nil⟩,HB0.out,by simp [Value.ownBlock],by simp⟩,0,rfl,by omega⟩
 case round=>
  obtain ⟨⟨j,es,ts,rfl,hj,hO,hN,⟨q,D,hM,hq,hD⟩,hB,hX,hW⟩,j1,hj1,hj2⟩:=hrel
  have hjj:j≤j0:=by injection hj1 with _ h;omega
  clear hj1 hj2 j1
  obtain ⟨va,vcap,hvf⟩:=own_form hO.row
  subst hvf
  have hjn:j < n:=by have:=HI.out.1;have:=HJ.out;omega
  by_cases hjg:j < j0
  ·have hjl:j < ld.length:=by have:=HI.out.1;omega
   obtain ⟨b,o,hea,hc,hlo,hhi⟩:=HI.out.2.2 j hjn
   subst hea
   have hcW:=(hB.cell (p:=⟨b,o + j,none⟩) (lt_of_cell hc)).trans hc
   have hrng:100≤ld.getD j 0∧ld.getD j 0≤103:=HG.out j hjg
   have htk:=Lib.hid (take_snocI ld j hjl)
   have hkw:keyOf Tryd.prog 3 (.int .i64 (ld.getD j 0))=some (.int .i64 (ld.getD j 0)):=keyOf_int_mk Tryd.underlying3 (WalkArith.wf_i64 (by omega))
   have HKW:=Lib.hid hkw
   have hAT:=hD (ld.getD j 0)
   have hDm:=own_map_isMap hM
   have HO:=Lib.hid hO
   have HN:=Lib.hid hN
   have HMM:=Lib.hid hM
   have HD:=Lib.hid hD
   have HB:=Lib.hid hB
   have HDm:=Lib.hid hDm
   obtain ⟨hr1,hr2⟩:=hrng
   clear hc hlo hhi hkw hO hN hM hD hB hDm
   generalize ld.getD j 0=p at *
   have hlt:(j:Int) < n:=by omega
   have hz2:Hid ((zeroValue 4).run Tryd.prog wr=.ok (.bool false) wr):=by show _=_;kernel_rfl
   by_cases hin:p ∈ ld.take j
   ·have HAT:Hid (D.atKey (.int .i64 p) (.lit (.bool false))=.lit (.bool true)):=by show _=_;rw [hAT];simp [hin]
    have HIN:=Lib.hid hin
    clear hAT hin
    go_wp2_with (at_lookup;refine wpList_lookup_bool _ rfl _ _ 66 rfl 3 4 (int_keyed Tryd.underlying3) Tryd.underlying66 Tryd.underlying4 hz2.out w.heap.size q D rfl HMM.out _ _ rfl HKW.out true HAT.out ?_)
    go_roundw
    case rel=>exact ⟨⟨j + 1,es,ts,by go_num,by omega,HO.out,by rw [htk.out];exact HN.out.again HIN.out,⟨q,D,HMM.out,by omega,by rw [htk.out];exact HD.out.again HIN.out⟩,HB.out,hX,hW⟩,j + 1,by go_num,by omega⟩
    case measure=>simp [intOf];omega
   ·have HAT:Hid (D.atKey (.int .i64 p) (.lit (.bool false))=.lit (.bool false)):=by show _=_;rw [hAT];simp [hin]
    have HIN:=Lib.hid hin
    have hqm:q < maxLen:=by unfold maxLen;omega
    clear hAT hin
    go_upto_region 12 with (first | (at_lookup;refine wpList_lookup_bool _ rfl _ _ 66 rfl 3 4 (int_keyed Tryd.underlying3) Tryd.underlying66 Tryd.underlying4 hz2.out w.heap.size q D rfl HMM.out _ _ rfl HKW.out false HAT.out ?_) | (at_mapUpdate;refine wpList_mapUpdate_own (H:=Unit) _ rfl _ _ _ 66 rfl 3 4 (int_keyed Tryd.underlying3) Tryd.underlying66 (plainElem Tryd.prog 4) w.heap.size q D rfl HMM.out hqm _ _ _ rfl rfl HKW.out (.lit (.bool true)) [] (plainElem_bool Tryd.underlying4 true) ?_;intro w3 hown3 hgr3))
    have hs3:=hgr3.size
    have b3:∀ k,k≠w.heap.size→k < wr.heap.size→w3.heap[k]?=wr.heap[k]?:=fun k h1 h2=>hgr3.block k h2 (fun e=>h1 (by cases e;rfl))
    have HO3:=Lib.hid (HO.out.var b3 hX)
    have HB3:Hid (Below w.heap.size w w3):=by
     have h1:=HB.out
     exact ⟨hgr3.os.trans h1.os,hgr3.tape.trans h1.tape,hgr3.output.trans h1.output,Nat.le_trans h1.size hs3,fun i hi=>(b3 i (by omega) (by omega)).trans (h1.block i hi)⟩
    have HM3:=Lib.hid hown3
    have HD3:=Lib.hid (HD.out.add HDm.out p)
    have hW3:w.heap.size < w3.heap.size:=by omega
    have HLN:Hid (ts.length≤4):=HN.out.len (HL.out j hjj)
    clear hown3 hgr3 b3 HMM HD HDm HAT HO HB hs3 hz2 hcW HKW hqm
    simp only [Act.put]
    go_wp2_with fail
    refine (tname_any p w3).mono ?_
    rintro e w4 ⟨rfl,hw4⟩
    have O4:=HO3.out.pure (pure_trans hw4 (pure_alloc w4 (.cells #[.int .i64 1,.int .i64 p,.slice none 0 0] 28)))
    have hs4:w3.heap.size≤(w4.alloc (.cells #[.int .i64 1,.int .i64 p,.slice none 0 0] 28)).heap.size:=(pure_trans hw4 (pure_alloc w4 (.cells #[.int .i64 1,.int .i64 p,.slice none 0 0] 28))).size
    obtain ⟨v',w6,hrun,hO6,hgr,hob,hoX⟩:=O4.push (a:=w4.heap.size) (c:=1) (e:=⟨1,p,none,0,0⟩) (t:=Tm.nm p) (alloc_new w4 _) rfl rfl (Nat.le_refl _) (TR_iff.2 (TL.nil _ _ _)) (by have:=HLN.out;omega) (by omega) hX (by omega)
    have hbk:∀ k,k≤w.heap.size→w6.heap[k]?=w3.heap[k]?:=fun k hk=>(hgr.block k (by omega) fun e=>by
     have:=(own_lt O4.row e.symm).2.1
     omega).trans ((pure_trans hw4 (pure_alloc w4 (.cells #[.int .i64 1,.int .i64 p,.slice none 0 0] 28))).block k (by omega))
    have HM6:=Lib.hid (own_map_keep HM3.out (hbk _ (Nat.le_refl _)))
    have HB6:Hid (Below w.heap.size w w6):=by
     have h1:=HB3.out.trans ((pure_trans hw4 (pure_alloc w4 (.cells #[.int .i64 1,.int .i64 p,.slice none 0 0] 28))).mono (by omega:w.heap.size≤w3.heap.size))
     exact ⟨hgr.os.trans h1.os,hgr.tape.trans h1.tape,hgr.output.trans h1.output,Nat.le_trans h1.size hgr.size,fun i hi=>(hbk i (by omega)).trans (HB3.out.block i hi)⟩
    have HO6:=Lib.hid hO6
    have hW6:w.heap.size < w6.heap.size:=by have:=hgr.size;omega
    clear hO6 hgr hob O4 hbk hw4 hs4
    go_wp2_with (refine wpList_app rfl _ _ 23 rfl rfl rfl hrun ?_)
    clear hrun
    go_roundw
    case rel=>exact ⟨⟨j + 1,_,_,by go_num,by omega,HO6.out,by rw [htk.out];exact HN.out.more HIN.out,⟨q + 1,_,HM6.out,by omega,by rw [htk.out];exact HD3.out⟩,HB6.out,hoX,hW6⟩,j + 1,by go_num,by omega⟩
    case measure=>simp [intOf];omega
  ·obtain rfl:j=j0:=by omega
   have hjl:j < ld.length:=HJ.out
   obtain ⟨b,o,hea,hc,hlo,hhi⟩:=HI.out.2.2 j hjn
   subst hea
   have hcW:=(hB.cell (p:=⟨b,o + j,none⟩) (lt_of_cell hc)).trans hc
   have hbad:=HBD.out
   have HB:=Lib.hid hB
   clear hc hO hN hM hD hB hjg hjj
   generalize ld.getD j 0=p at *
   have hlt:(j:Int) < n:=by omega
   by_cases hp:p < 100
   ·go_wp2_with fail
    go_ret2
    exact ⟨rfl,HB.out⟩
   ·have hp3:103 < p:=by omega
    have hp0:100≤p:=by omega
    go_wp2_with fail
    go_ret2
    exact ⟨rfl,HB.out⟩
theorem secret_badm (k:Int) (hk:3 < k) (la:Option Addr) (n cap:Nat) (w:World):Calls Tryd.prog 29 #[.int .i64 k,.slice la n cap] w fun e w'=>e=.returned (.tuple #[.bool false,.int .i64 30])∧w=w':=by
 have h0:¬ k < 0:=by omega
 go_enter Tryd.func29,Tryd.ntmps29
 go_wp2_with fail
 go_ret2
 exact ⟨rfl,rfl⟩
end Go.Proofs.YtkgbjoepjcenlaaDoor
namespace Go.Proofs.YtkgbjoepjcenlaaDoor
open Go.RowKit
section ops
variable {B:Nat} {L:List (Nat × Tm)} {o:Oper} {ρ:Operand→Value} {w:World}
theorem does_index (hG:GM B L w) (x y:Operand) (b q n c j:Nat) (hj:j < n) (ho:o.op=.indexAddr 23 x y) (hx:ρ x=.slice (some ⟨b,q,none⟩) n c) (hy:ρ y=.int .i64 j):Rg.Does Tryd.prog o ρ w fun v w'=>RB w w'∧GM B L w'∧(Fa.eq (.pointer (some ⟨b,q + j * 3,none⟩))).holds B L v w':=by
 refine Rg.Does.value (v:=.pointer (some ⟨b,q + j * 3,none⟩)) (w':=w) ?_ ⟨RB.refl _,hG,rfl⟩
 have hlt:(j:Int) < n:=by omega
 simp only [execOp,ho,hx,hy]
 go_simp
theorem does_loadT (hG:GM B L w) (x:Operand) (b q:Nat) (i m:Int) (an:Option Addr) (nn cc:Nat) (ho:o.op=.load 28 x) (hx:ρ x=.pointer (some ⟨b,q,none⟩)) (c0:w.cell? ⟨b,q,none⟩=some (.int .i64 i)) (c1:w.cell? ⟨b,q + 1,none⟩=some (.int .i64 m)) (c2:w.cell? ⟨b,q + 2,none⟩=some (.slice an nn cc)):Rg.Does Tryd.prog o ρ w fun v w'=>RB w w'∧GM B L w'∧(Fa.eq (.agg #[.int .i64 i,.int .i64 m,.slice an nn cc])).holds B L v w':=by
 refine Rg.Does.value (v:=.agg #[.int .i64 i,.int .i64 m,.slice an nn cc]) (w':=w) ?_ ⟨RB.refl _,hG,rfl⟩
 simp only [execOp,ho,hx]
 go_simp
theorem does_neq0 (hG:GM B L w) (x:Operand) (ho:o.op=.binOp .neq 3 x (.const (.int .i64 0)) 3) (hx:ρ x=.int .i64 0) (hc:ρ (.const (.int .i64 0))=.int .i64 0):Rg.Does Tryd.prog o ρ w fun v w'=>RB w w'∧GM B L w'∧(Fa.eq (.bool false)).holds B L v w':=by
 refine Rg.Does.value (v:=.bool false) (w':=w) ?_ ⟨RB.refl _,hG,rfl⟩
 simp only [execOp,ho,hx,hc]
 go_simp
end ops
set_option maxHeartbeats 1600000 in
theorem rsame_any (l:List Tm) (a:Option Addr) (n c:Nat) (a':Option Addr) (n' c':Nat) (w:World) (ok ok':Nat→Prop) (hT:TL ok w l a n) (hU:TL ok' w l a' n'):
 Calls Tryd.prog 32 #[.slice a n c,.slice a' n' c'] w fun e w'=>e=.returned (.bool true)∧Below w.heap.size w w':=by
 obtain rfl:n=n':=hT.1.trans hU.1.symm
 have hn:=hT.2.1
 have HLN:=Lib.hid hT.1
 have HT:=Lib.hid hT
 have HU:=Lib.hid hU
 clear hT hU
 go_enter Tryd.func32,Tryd.ntmps32
 go_wp2_with fail
 go_loopw [13] (fun i W=>∃ j:Nat,i=.int .i64 j∧j≤n∧Below w.heap.size w W) (fun i _=>n - (intOf i).toNat)
 case atStart=>exact ⟨0,rfl,by omega,Below.refl _ _⟩
 case round=>
  obtain ⟨j,rfl,hj,hB⟩:=hrel
  by_cases hjn:j < n
  ·have hjl:j < l.length:=by have:=HLN.out;omega
   obtain ⟨b,o,an,nn,cc,rfl,hb,c0,c1,c2,ht⟩:=(HT.out.below hB).2.2 j hjl
   obtain ⟨b',o',an',nn',cc',rfl,hb',c0',c1',c2',ht'⟩:=(HU.out.below hB).2.2 j hjl
   have HB:=Lib.hid hB
   have HK:=Lib.hid ht
   have HK':=Lib.hid ht'
   clear hB ht ht' hb hb'
   generalize l[j]=k at *
   have hl:=lt_of_cell c0
   have hl1:=lt_of_cell c0'
   have hlt:(j:Int) < n:=by omega
   go_upto_region 6 with fail
   refine region_tm (B:=0) (L:=[]) (M:=10) [.eq (.slice (some ⟨b,o,none⟩) n c),.eq (.int .i64 j),.eq (.pointer (some ⟨b,o + j * 3,none⟩)),.eq (.agg #[.int .i64 k.op,.int .i64 k.num,.slice an nn cc]),.eq (.slice (some ⟨b',o',none⟩) n c'),.eq (.int .i64 j),.eq (.pointer (some ⟨b',o' + j * 3,none⟩)),.eq (.agg #[.int .i64 k.op,.int .i64 k.num,.slice an' nn' cc']),.eq (.int .i64 0),.eq (.bool false)] (by kernel_rfl) (by kernel_rfl) ⟨Nat.zero_le _,by simp⟩ ?_ ?_
   ·refine ⟨fun vs W hR hG hd=>?_,fun vs W hR hG hd=>?_,fun vs W hR hG hd=>?_,fun vs W hR hG hd=>?_,fun vs W hR hG hd=>?_,fun vs W hR hG hd=>?_,fun vs W hR hG hd=>?_,fun vs W hR hG hd=>?_,fun vs W hR hG hd=>?_,fun vs W hR hG hd=>?_,trivial⟩
    ·exact Rg.Does.move (.tmp 0) rfl ⟨RB.refl _,hG,show _=_ by kernel_rfl⟩
    ·exact Rg.Does.move (.tmp 5) rfl ⟨RB.refl _,hG,show _=_ by kernel_rfl⟩
    ·exact does_index hG (.tmp 16) (.tmp 17) b o n c j hjn rfl (hd 0 (by decide)) (hd 1 (by decide))
    ·exact does_loadT hG (.tmp 18) b (o + j * 3) _ _ _ _ _ rfl (hd 2 (by decide)) ((hR.cell (p:=⟨b,o + j * 3,none⟩) hl).trans c0) ((hR.cell (p:=⟨b,o + j * 3 + 1,none⟩) hl).trans c1) ((hR.cell (p:=⟨b,o + j * 3 + 2,none⟩) hl).trans c2)
    ·exact Rg.Does.move (.tmp 1) rfl ⟨RB.refl _,hG,show _=_ by kernel_rfl⟩
    ·exact Rg.Does.move (.tmp 5) rfl ⟨RB.refl _,hG,show _=_ by kernel_rfl⟩
    ·exact does_index hG (.tmp 20) (.tmp 21) b' o' n c' j hjn rfl (hd 4 (by decide)) (hd 5 (by decide))
    ·exact does_loadT hG (.tmp 22) b' (o' + j * 3) _ _ _ _ _ rfl (hd 6 (by decide)) ((hR.cell (p:=⟨b',o' + j * 3,none⟩) hl1).trans c0') ((hR.cell (p:=⟨b',o' + j * 3 + 1,none⟩) hl1).trans c1') ((hR.cell (p:=⟨b',o' + j * 3 + 2,none⟩) hl1).trans c2')
    ·have e3:vs 3=.agg #[.int .i64 k.op,.int .i64 k.num,.slice an nn cc]:=hd 3 (by decide)
     have e7:vs 7=.agg #[.int .i64 k.op,.int .i64 k.num,.slice an' nn' cc']:=hd 7 (by decide)
     refine Rg.Does.call (vals:=#[vs 3,vs 7]) 22 (.func 22) #[.tmp 19,.tmp 23] _ rfl (by kernel_rfl) (by kernel_rfl) (cf 22 _ Tryd.func22 (by kernel_rfl) (by kernel_rfl) _) ?_
     rw [e3,e7]
     exact (compareR_any k.size k k an nn cc an' nn' cc' W _ _ (Nat.le_refl _) (HK.out.below hR) (HK'.out.below hR)).mono fun e w' ⟨he,hb⟩=>⟨_,he,hb,hG.stable hb,show _=_ by rw [Tm.compare_self]⟩
    ·exact does_neq0 hG (.tmp 24) rfl (hd 8 (by decide)) (by kernel_rfl)
   intro vs W2 hR2 hG2 hf
   have e9:vs 9=.bool false:=hf 9 (by decide)
   have HB2:=Lib.hid (HB.out.trans (hR2.mono HB.out.size))
   clear hR2 hG2 hf c0 c1 c2 c0' c1' c2' hl hl1 HK HK' HB
   simp only [Rg.putAll,Rg.putFrom,List.take_succ_cons,List.take_zero,List.drop_succ_cons,List.drop_zero,Act.put,List.setIfInBounds_toArray,List.set_cons_zero,List.set_cons_succ,e9]
   clear e9
   go_wp2_with fail
   go_roundw
   case rel=>exact ⟨j + 1,by go_num,by omega,HB2.out⟩
   case measure=>simp [intOf];omega
  ·have hjn':¬ ((j:Int) < n):=by omega
   go_wp2_with fail
   go_ret
   exact ⟨rfl,hB⟩
end Go.Proofs.YtkgbjoepjcenlaaDoor
namespace Go.Proofs.YtkgbjoepjcenlaaDoor
open Go.RowKit
def ErPost (code:Int) (w:World) (e:Ending) (w':World):Prop:=e=.returned (.tuple #[.slice none 0 0,.agg #[.int .i64 0,.int .i64 0,.slice none 0 0],.int .i64 code])∧Below w.heap.size w w'
set_option maxRecDepth 100000 in
set_option maxHeartbeats 1600000 in
theorem exch_badm (m x y i r:Int) (hm:m < 0∨(0≤m∧3 < m)) (w:World):Calls Tryd.prog 30 #[.int .i64 m,.int .i64 x,.int .i64 y,.int .i64 i,.int .i64 r] w fun e w'=>ErPost 30 w e w':=by
 have N0:=alloc_new w (.cells #[.int .i64 0,.int .i64 0,.slice none 0 0] 28)
 have HB:Hid (Below w.heap.size w (w.alloc (.cells #[.int .i64 0,.int .i64 0,.slice none 0 0] 28))):=pure_alloc _ _
 have HN0:=Lib.hid N0
 clear N0
 go_enter Tryd.func30,Tryd.ntmps30
 go_upto_region 1 with fail
 generalize (w.alloc (.cells #[.int .i64 0,.int .i64 0,.slice none 0 0] 28))=w1 at *
 have N0:=HN0.out
 have r0:=cell_of_arr N0 0
 have r1:=cell_of_arr N0 1
 have r2:=cell_of_arr N0 2
 simp at r0 r1 r2
 have f0:=frozen_of_arr N0 0
 have f1:=frozen_of_arr N0 1
 have f2:=frozen_of_arr N0 2
 clear N0
 obtain ⟨S1,S2,S3⟩:=put3 HN0.out (.int .i64 0) (.int .i64 0) (.slice none 0 0) _ rfl
 have HE:Hid (ErPost 30 w (.returned (.tuple #[.slice none 0 0,.agg #[.int .i64 0,.int .i64 0,.slice none 0 0],.int .i64 30])) (((w1.setCell ⟨w.heap.size,0,none⟩ (.int .i64 0)).setCell ⟨w.heap.size,1,none⟩ (.int .i64 0)).setCell ⟨w.heap.size,2,none⟩ (.slice none 0 0))):=⟨rfl,RB.stored HB.out (Nat.le_refl _) _ _ _⟩
 have p0:=cell_of_arr S1 0
 have p1:=cell_of_arr S1 1
 have p2:=cell_of_arr S1 2
 simp at p0 p1 p2
 clear S1 S2 S3
 rcases hm with hm | ⟨hm0,hm⟩
 ·go_wp2_with fail
  exact bodyPost_ret (v:=.tuple #[.slice none 0 0,.agg #[.int .i64 0,.int .i64 0,.slice none 0 0],.int .i64 30]) (by simp [results,Tryd.results30,go_sem,p0,p1,p2]) rfl HE.out
 ·go_wp2_with fail
  exact bodyPost_ret (v:=.tuple #[.slice none 0 0,.agg #[.int .i64 0,.int .i64 0,.slice none 0 0],.int .i64 30]) (by simp [results,Tryd.results30,go_sem,p0,p1,p2]) rfl HE.out
set_option maxRecDepth 100000 in
set_option maxHeartbeats 1600000 in
theorem rexch_badm (m x y i r:Int) (hm:m < 0∨(0≤m∧3 < m)) (w:World):Calls Tryd.prog 31 #[.int .i64 m,.int .i64 x,.int .i64 y,.int .i64 i,.int .i64 r] w fun e w'=>ErPost 30 w e w':=by
 have N0:=alloc_new w (.cells #[.int .i64 0,.int .i64 0,.slice none 0 0] 28)
 have HB:Hid (Below w.heap.size w (w.alloc (.cells #[.int .i64 0,.int .i64 0,.slice none 0 0] 28))):=pure_alloc _ _
 have HN0:=Lib.hid N0
 clear N0
 go_enter Tryd.func31,Tryd.ntmps31
 go_upto_region 1 with fail
 generalize (w.alloc (.cells #[.int .i64 0,.int .i64 0,.slice none 0 0] 28))=w1 at *
 have N0:=HN0.out
 have r0:=cell_of_arr N0 0
 have r1:=cell_of_arr N0 1
 have r2:=cell_of_arr N0 2
 simp at r0 r1 r2
 have f0:=frozen_of_arr N0 0
 have f1:=frozen_of_arr N0 1
 have f2:=frozen_of_arr N0 2
 clear N0
 obtain ⟨S1,S2,S3⟩:=put3 HN0.out (.int .i64 0) (.int .i64 0) (.slice none 0 0) _ rfl
 have HE:Hid (ErPost 30 w (.returned (.tuple #[.slice none 0 0,.agg #[.int .i64 0,.int .i64 0,.slice none 0 0],.int .i64 30])) (((w1.setCell ⟨w.heap.size,0,none⟩ (.int .i64 0)).setCell ⟨w.heap.size,1,none⟩ (.int .i64 0)).setCell ⟨w.heap.size,2,none⟩ (.slice none 0 0))):=⟨rfl,RB.stored HB.out (Nat.le_refl _) _ _ _⟩
 have p0:=cell_of_arr S1 0
 have p1:=cell_of_arr S1 1
 have p2:=cell_of_arr S1 2
 simp at p0 p1 p2
 clear S1 S2 S3
 rcases hm with hm | ⟨hm0,hm⟩
 ·go_wp2_with fail
  exact bodyPost_ret (v:=.tuple #[.slice none 0 0,.agg #[.int .i64 0,.int .i64 0,.slice none 0 0],.int .i64 30]) (by simp [results,Tryd.results31,go_sem,p0,p1,p2]) rfl HE.out
 ·go_wp2_with fail
  exact bodyPost_ret (v:=.tuple #[.slice none 0 0,.agg #[.int .i64 0,.int .i64 0,.slice none 0 0],.int .i64 30]) (by simp [results,Tryd.results31,go_sem,p0,p1,p2]) rfl HE.out
end Go.Proofs.YtkgbjoepjcenlaaDoor
namespace Go.Proofs.YtkgbjoepjcenlaaDoor
open Go.RowKit
def Gd (l:List Int) (j:Nat):Prop:=∀ a (h:a < l.length),a < j→(100≤l[a]∧l[a]≤1000)∧∀ b (h:b < l.length),b < a→l[a]≠l[b]
theorem Gd.next {l:List Int} {j:Nat} (hj:j < l.length) (h:Gd l j) (h1:100≤l[j]) (h2:l[j]≤1000) (h3:∀ b (h:b < l.length),b < j→l[j]≠l[b]):Gd l (j + 1):=fun a ha hl=>by
 rcases Nat.lt_or_ge a j with h4 | h4
 ·exact h a ha h4
 ·obtain rfl:a=j:=by omega
  exact ⟨⟨h1,h2⟩,h3⟩
theorem Gq.next {l:List Int} {q:Nat} {v:Int} (hq:q < l.length) (h:∀ b (h:b < l.length),b < q→v≠l[b]) (hv:v≠l[q]):∀ b (h:b < l.length),b < q + 1→v≠l[b]:=fun b hb hl=>by
 rcases Nat.lt_or_ge b q with h4 | h4
 ·exact h b hb h4
 ·obtain rfl:b=q:=by omega
  exact hv
set_option maxRecDepth 100000 in
set_option maxHeartbeats 4000000 in
theorem rexch_bad (m x y i r:Int) (hm0:0≤m) (hm3:m≤3) (hbad:¬ Gd [x,y,i,r] 4) (w:World):Calls Tryd.prog 31 #[.int .i64 m,.int .i64 x,.int .i64 y,.int .i64 i,.int .i64 r] w fun e w'=>ErPost 1 w e w':=by
 have HN1:Hid (((w.alloc (.cells #[.int .i64 0,.int .i64 0,.slice none 0 0] 28)).alloc (.cells #[.int .i64 x,.int .i64 y,.int .i64 i,.int .i64 r] 3)).heap[w.heap.size + 1]?=some (.cells #[.int .i64 x,.int .i64 y,.int .i64 i,.int .i64 r] 3 (0,0))):=alloc_new' _ _ _ (by simp)
 have HB0:Hid (Below w.heap.size w ((w.alloc (.cells #[.int .i64 0,.int .i64 0,.slice none 0 0] 28)).alloc (.cells #[.int .i64 x,.int .i64 y,.int .i64 i,.int .i64 r] 3))):=(pure_alloc _ _).alloc (by simp) _
 have HN0:Hid (((w.alloc (.cells #[.int .i64 0,.int .i64 0,.slice none 0 0] 28)).alloc (.cells #[.int .i64 x,.int .i64 y,.int .i64 i,.int .i64 r] 3)).heap[w.heap.size]?=some (.cells #[.int .i64 0,.int .i64 0,.slice none 0 0] 28 (0,0))):=alloc_keep (alloc_new _ _)
 have HBad:=Lib.hid hbad
 clear hbad
 go_enter Tryd.func31,Tryd.ntmps31
 go_wp2_with fail
 generalize ((w.alloc (.cells #[.int .i64 0,.int .i64 0,.slice none 0 0] 28)).alloc (.cells #[.int .i64 x,.int .i64 y,.int .i64 i,.int .i64 r] 3))=w1 at *
 go_loopw [57] (fun v W=>∃ j:Nat,j≤4∧v=.int .i64 j∧Gd [x,y,i,r] j∧RB w1 W) (fun v _=>4 - (intOf v).toNat)
 case atStart=>exact ⟨0,by omega,rfl,fun a _ h=>absurd h (by omega),RB.refl _⟩
 case round=>
  obtain ⟨j,hj,rfl,hG,hB⟩:=hrel
  have HG:=Lib.hid hG
  have HB:=Lib.hid hB
  have N0:=Below.keep hB HN0.out (lt_of_block HN0.out)
  have N1:=Below.keep hB HN1.out (lt_of_block HN1.out)
  have hBw:=HB0.out.trans (hB.mono HB0.out.size)
  have HNr:=Lib.hid N0
  have HBw:=Lib.hid hBw
  have c0:=cell_of_arr N1 0
  have c1:=cell_of_arr N1 1
  have c2:=cell_of_arr N1 2
  have c3:=cell_of_arr N1 3
  simp at c0 c1 c2 c3
  clear hG hB N0 N1 hBw
  rcases (show j=0∨j=1∨j=2∨j=3∨j=4 by omega) with rfl | rfl | rfl | rfl | rfl
  ·by_cases h1:x < 100
   ·
    obtain ⟨S1,S2,S3⟩:=put3 HNr.out (.int .i64 0) (.int .i64 0) (.slice none 0 0) _ rfl
    have HE:Hid (ErPost 1 w (.returned (.tuple #[.slice none 0 0,.agg #[.int .i64 0,.int .i64 0,.slice none 0 0],.int .i64 1])) (((wr.setCell ⟨w.heap.size,0,none⟩ (.int .i64 0)).setCell ⟨w.heap.size,1,none⟩ (.int .i64 0)).setCell ⟨w.heap.size,2,none⟩ (.slice none 0 0))):=⟨rfl,RB.stored HBw.out (Nat.le_refl _) _ _ _⟩
    have p0:=cell_of_arr S1 0
    have p1:=cell_of_arr S1 1
    have p2:=cell_of_arr S1 2
    simp at p0 p1 p2
    have r0:=cell_of_arr HNr.out 0
    have r1:=cell_of_arr HNr.out 1
    have r2:=cell_of_arr HNr.out 2
    simp at r0 r1 r2
    have f0:=frozen_of_arr HNr.out 0
    have f1:=frozen_of_arr HNr.out 1
    have f2:=frozen_of_arr HNr.out 2
    clear S1 S2 S3
    go_wp2_with fail
    exact bodyPost_ret (v:=.tuple #[.slice none 0 0,.agg #[.int .i64 0,.int .i64 0,.slice none 0 0],.int .i64 1]) (by simp [results,Tryd.results31,go_sem,p0,p1,p2]) rfl HE.out
   by_cases h2:1000 < x
   ·have h1':100≤x:=by omega
    obtain ⟨S1,S2,S3⟩:=put3 HNr.out (.int .i64 0) (.int .i64 0) (.slice none 0 0) _ rfl
    have HE:Hid (ErPost 1 w (.returned (.tuple #[.slice none 0 0,.agg #[.int .i64 0,.int .i64 0,.slice none 0 0],.int .i64 1])) (((wr.setCell ⟨w.heap.size,0,none⟩ (.int .i64 0)).setCell ⟨w.heap.size,1,none⟩ (.int .i64 0)).setCell ⟨w.heap.size,2,none⟩ (.slice none 0 0))):=⟨rfl,RB.stored HBw.out (Nat.le_refl _) _ _ _⟩
    have p0:=cell_of_arr S1 0
    have p1:=cell_of_arr S1 1
    have p2:=cell_of_arr S1 2
    simp at p0 p1 p2
    have r0:=cell_of_arr HNr.out 0
    have r1:=cell_of_arr HNr.out 1
    have r2:=cell_of_arr HNr.out 2
    simp at r0 r1 r2
    have f0:=frozen_of_arr HNr.out 0
    have f1:=frozen_of_arr HNr.out 1
    have f2:=frozen_of_arr HNr.out 2
    clear S1 S2 S3
    go_wp2_with fail
    exact bodyPost_ret (v:=.tuple #[.slice none 0 0,.agg #[.int .i64 0,.int .i64 0,.slice none 0 0],.int .i64 1]) (by simp [results,Tryd.results31,go_sem,p0,p1,p2]) rfl HE.out
   have h1':100≤x:=by omega
   have h2':x≤1000:=by omega
   go_wp2_with fail
   clear c0 c1 c2 c3
   go_loopw [15] (fun v W=>∃ q:Nat,q≤0∧v=.int .i64 q∧(∀ b (h:b < [x,y,i,r].length),b < q→x≠[x,y,i,r][b])∧RB wr W) (fun v _=>4 - (intOf v).toNat)
   case atStart=>exact ⟨0,by omega,rfl,fun b _ h=>absurd h (by omega),RB.refl _⟩
   case round=>
    obtain ⟨q,hq,rfl,hne,hC⟩:=hrel
    have HNE:=Lib.hid hne
    have HC:=Lib.hid hC
    have HNQ:=Lib.hid (Below.keep hC HNr.out (lt_of_block HNr.out))
    have HBQ:=Lib.hid (HBw.out.trans (hC.mono HBw.out.size))
    have HBB:=Lib.hid (RB.trans _ _ _ HB.out hC)
    have N1:=Below.keep HBB.out HN1.out (lt_of_block HN1.out)
    have c0:=cell_of_arr N1 0
    have c1:=cell_of_arr N1 1
    have c2:=cell_of_arr N1 2
    have c3:=cell_of_arr N1 3
    simp at c0 c1 c2 c3
    clear N1 hne hC
    rcases (show q=0 by omega) with rfl
    ·go_wp2_with fail
     go_roundw
     case rel=>exact ⟨1,by omega,by go_num,Gd.next (by simp) HG.out h1' h2' HNE.out,HBB.out⟩
     case measure=>simp [intOf]
  ·by_cases h1:y < 100
   ·
    obtain ⟨S1,S2,S3⟩:=put3 HNr.out (.int .i64 0) (.int .i64 0) (.slice none 0 0) _ rfl
    have HE:Hid (ErPost 1 w (.returned (.tuple #[.slice none 0 0,.agg #[.int .i64 0,.int .i64 0,.slice none 0 0],.int .i64 1])) (((wr.setCell ⟨w.heap.size,0,none⟩ (.int .i64 0)).setCell ⟨w.heap.size,1,none⟩ (.int .i64 0)).setCell ⟨w.heap.size,2,none⟩ (.slice none 0 0))):=⟨rfl,RB.stored HBw.out (Nat.le_refl _) _ _ _⟩
    have p0:=cell_of_arr S1 0
    have p1:=cell_of_arr S1 1
    have p2:=cell_of_arr S1 2
    simp at p0 p1 p2
    have r0:=cell_of_arr HNr.out 0
    have r1:=cell_of_arr HNr.out 1
    have r2:=cell_of_arr HNr.out 2
    simp at r0 r1 r2
    have f0:=frozen_of_arr HNr.out 0
    have f1:=frozen_of_arr HNr.out 1
    have f2:=frozen_of_arr HNr.out 2
    clear S1 S2 S3
    go_wp2_with fail
    exact bodyPost_ret (v:=.tuple #[.slice none 0 0,.agg #[.int .i64 0,.int .i64 0,.slice none 0 0],.int .i64 1]) (by simp [results,Tryd.results31,go_sem,p0,p1,p2]) rfl HE.out
   by_cases h2:1000 < y
   ·have h1':100≤y:=by omega
    obtain ⟨S1,S2,S3⟩:=put3 HNr.out (.int .i64 0) (.int .i64 0) (.slice none 0 0) _ rfl
    have HE:Hid (ErPost 1 w (.returned (.tuple #[.slice none 0 0,.agg #[.int .i64 0,.int .i64 0,.slice none 0 0],.int .i64 1])) (((wr.setCell ⟨w.heap.size,0,none⟩ (.int .i64 0)).setCell ⟨w.heap.size,1,none⟩ (.int .i64 0)).setCell ⟨w.heap.size,2,none⟩ (.slice none 0 0))):=⟨rfl,RB.stored HBw.out (Nat.le_refl _) _ _ _⟩
    have p0:=cell_of_arr S1 0
    have p1:=cell_of_arr S1 1
    have p2:=cell_of_arr S1 2
    simp at p0 p1 p2
    have r0:=cell_of_arr HNr.out 0
    have r1:=cell_of_arr HNr.out 1
    have r2:=cell_of_arr HNr.out 2
    simp at r0 r1 r2
    have f0:=frozen_of_arr HNr.out 0
    have f1:=frozen_of_arr HNr.out 1
    have f2:=frozen_of_arr HNr.out 2
    clear S1 S2 S3
    go_wp2_with fail
    exact bodyPost_ret (v:=.tuple #[.slice none 0 0,.agg #[.int .i64 0,.int .i64 0,.slice none 0 0],.int .i64 1]) (by simp [results,Tryd.results31,go_sem,p0,p1,p2]) rfl HE.out
   have h1':100≤y:=by omega
   have h2':y≤1000:=by omega
   go_wp2_with fail
   clear c0 c1 c2 c3
   go_loopw [15] (fun v W=>∃ q:Nat,q≤1∧v=.int .i64 q∧(∀ b (h:b < [x,y,i,r].length),b < q→y≠[x,y,i,r][b])∧RB wr W) (fun v _=>4 - (intOf v).toNat)
   case atStart=>exact ⟨0,by omega,rfl,fun b _ h=>absurd h (by omega),RB.refl _⟩
   case round=>
    obtain ⟨q,hq,rfl,hne,hC⟩:=hrel
    have HNE:=Lib.hid hne
    have HC:=Lib.hid hC
    have HNQ:=Lib.hid (Below.keep hC HNr.out (lt_of_block HNr.out))
    have HBQ:=Lib.hid (HBw.out.trans (hC.mono HBw.out.size))
    have HBB:=Lib.hid (RB.trans _ _ _ HB.out hC)
    have N1:=Below.keep HBB.out HN1.out (lt_of_block HN1.out)
    have c0:=cell_of_arr N1 0
    have c1:=cell_of_arr N1 1
    have c2:=cell_of_arr N1 2
    have c3:=cell_of_arr N1 3
    simp at c0 c1 c2 c3
    clear N1 hne hC
    rcases (show q=0∨q=1 by omega) with rfl | rfl
    ·by_cases h3:y=x
     ·have h3b:(y==x)=true:=by simpa using h3
      clear h3
      go_upto_region 12 with fail
      go_quiet (fail)
      have HD:Hid (RB wr (wr.drewN nq)):=below_drewN (Below.refl _ _) nq
      have HNQ2:=Lib.hid (Below.keep HD.out HNQ.out (lt_of_block HNQ.out))
      have HBQ2:=Lib.hid (HBQ.out.trans (HD.out.mono HBQ.out.size))
      clear c0 c1 c2 c3
      generalize wr.drewN nq=w2 at *
      obtain ⟨S1,S2,S3⟩:=put3 HNQ2.out (.int .i64 0) (.int .i64 0) (.slice none 0 0) _ rfl
      have HE:Hid (ErPost 1 w (.returned (.tuple #[.slice none 0 0,.agg #[.int .i64 0,.int .i64 0,.slice none 0 0],.int .i64 1])) (((w2.setCell ⟨w.heap.size,0,none⟩ (.int .i64 0)).setCell ⟨w.heap.size,1,none⟩ (.int .i64 0)).setCell ⟨w.heap.size,2,none⟩ (.slice none 0 0))):=⟨rfl,RB.stored HBQ2.out (Nat.le_refl _) _ _ _⟩
      have p0:=cell_of_arr S1 0
      have p1:=cell_of_arr S1 1
      have p2:=cell_of_arr S1 2
      simp at p0 p1 p2
      have r0:=cell_of_arr HNQ2.out 0
      have r1:=cell_of_arr HNQ2.out 1
      have r2:=cell_of_arr HNQ2.out 2
      simp at r0 r1 r2
      have f0:=frozen_of_arr HNQ2.out 0
      have f1:=frozen_of_arr HNQ2.out 1
      have f2:=frozen_of_arr HNQ2.out 2
      clear S1 S2 S3
      go_wp2_with fail
      exact bodyPost_ret (v:=.tuple #[.slice none 0 0,.agg #[.int .i64 0,.int .i64 0,.slice none 0 0],.int .i64 1]) (by simp [results,Tryd.results31,go_sem,p0,p1,p2]) rfl HE.out
     ·have h3b:(y==x)=false:=by simpa using h3
      have HV:=Lib.hid h3
      clear h3
      go_upto_region 12 with fail
      go_quiet (fail)
      have HD:Hid (RB wr (wr.drewN nq)):=below_drewN (Below.refl _ _) nq
      go_wp2_with fail
      go_roundw
      case rel=>exact ⟨1,by omega,by go_num,Gq.next (by simp) HNE.out HV.out,RB.trans _ _ _ HC.out HD.out⟩
      case measure=>simp [intOf]
    ·go_wp2_with fail
     go_roundw
     case rel=>exact ⟨2,by omega,by go_num,Gd.next (by simp) HG.out h1' h2' HNE.out,HBB.out⟩
     case measure=>simp [intOf]
  ·by_cases h1:i < 100
   ·
    obtain ⟨S1,S2,S3⟩:=put3 HNr.out (.int .i64 0) (.int .i64 0) (.slice none 0 0) _ rfl
    have HE:Hid (ErPost 1 w (.returned (.tuple #[.slice none 0 0,.agg #[.int .i64 0,.int .i64 0,.slice none 0 0],.int .i64 1])) (((wr.setCell ⟨w.heap.size,0,none⟩ (.int .i64 0)).setCell ⟨w.heap.size,1,none⟩ (.int .i64 0)).setCell ⟨w.heap.size,2,none⟩ (.slice none 0 0))):=⟨rfl,RB.stored HBw.out (Nat.le_refl _) _ _ _⟩
    have p0:=cell_of_arr S1 0
    have p1:=cell_of_arr S1 1
    have p2:=cell_of_arr S1 2
    simp at p0 p1 p2
    have r0:=cell_of_arr HNr.out 0
    have r1:=cell_of_arr HNr.out 1
    have r2:=cell_of_arr HNr.out 2
    simp at r0 r1 r2
    have f0:=frozen_of_arr HNr.out 0
    have f1:=frozen_of_arr HNr.out 1
    have f2:=frozen_of_arr HNr.out 2
    clear S1 S2 S3
    go_wp2_with fail
    exact bodyPost_ret (v:=.tuple #[.slice none 0 0,.agg #[.int .i64 0,.int .i64 0,.slice none 0 0],.int .i64 1]) (by simp [results,Tryd.results31,go_sem,p0,p1,p2]) rfl HE.out
   by_cases h2:1000 < i
   ·have h1':100≤i:=by omega
    obtain ⟨S1,S2,S3⟩:=put3 HNr.out (.int .i64 0) (.int .i64 0) (.slice none 0 0) _ rfl
    have HE:Hid (ErPost 1 w (.returned (.tuple #[.slice none 0 0,.agg #[.int .i64 0,.int .i64 0,.slice none 0 0],.int .i64 1])) (((wr.setCell ⟨w.heap.size,0,none⟩ (.int .i64 0)).setCell ⟨w.heap.size,1,none⟩ (.int .i64 0)).setCell ⟨w.heap.size,2,none⟩ (.slice none 0 0))):=⟨rfl,RB.stored HBw.out (Nat.le_refl _) _ _ _⟩
    have p0:=cell_of_arr S1 0
    have p1:=cell_of_arr S1 1
    have p2:=cell_of_arr S1 2
    simp at p0 p1 p2
    have r0:=cell_of_arr HNr.out 0
    have r1:=cell_of_arr HNr.out 1
    have r2:=cell_of_arr HNr.out 2
    simp at r0 r1 r2
    have f0:=frozen_of_arr HNr.out 0
    have f1:=frozen_of_arr HNr.out 1
    have f2:=frozen_of_arr HNr.out 2
    clear S1 S2 S3
    go_wp2_with fail
    exact bodyPost_ret (v:=.tuple #[.slice none 0 0,.agg #[.int .i64 0,.int .i64 0,.slice none 0 0],.int .i64 1]) (by simp [results,Tryd.results31,go_sem,p0,p1,p2]) rfl HE.out
   have h1':100≤i:=by omega
   have h2':i≤1000:=by omega
   go_wp2_with fail
   clear c0 c1 c2 c3
   go_loopw [15] (fun v W=>∃ q:Nat,q≤2∧v=.int .i64 q∧(∀ b (h:b < [x,y,i,r].length),b < q→i≠[x,y,i,r][b])∧RB wr W) (fun v _=>4 - (intOf v).toNat)
   case atStart=>exact ⟨0,by omega,rfl,fun b _ h=>absurd h (by omega),RB.refl _⟩
   case round=>
    obtain ⟨q,hq,rfl,hne,hC⟩:=hrel
    have HNE:=Lib.hid hne
    have HC:=Lib.hid hC
    have HNQ:=Lib.hid (Below.keep hC HNr.out (lt_of_block HNr.out))
    have HBQ:=Lib.hid (HBw.out.trans (hC.mono HBw.out.size))
    have HBB:=Lib.hid (RB.trans _ _ _ HB.out hC)
    have N1:=Below.keep HBB.out HN1.out (lt_of_block HN1.out)
    have c0:=cell_of_arr N1 0
    have c1:=cell_of_arr N1 1
    have c2:=cell_of_arr N1 2
    have c3:=cell_of_arr N1 3
    simp at c0 c1 c2 c3
    clear N1 hne hC
    rcases (show q=0∨q=1∨q=2 by omega) with rfl | rfl | rfl
    ·by_cases h3:i=x
     ·have h3b:(i==x)=true:=by simpa using h3
      clear h3
      go_upto_region 12 with fail
      go_quiet (fail)
      have HD:Hid (RB wr (wr.drewN nq)):=below_drewN (Below.refl _ _) nq
      have HNQ2:=Lib.hid (Below.keep HD.out HNQ.out (lt_of_block HNQ.out))
      have HBQ2:=Lib.hid (HBQ.out.trans (HD.out.mono HBQ.out.size))
      clear c0 c1 c2 c3
      generalize wr.drewN nq=w2 at *
      obtain ⟨S1,S2,S3⟩:=put3 HNQ2.out (.int .i64 0) (.int .i64 0) (.slice none 0 0) _ rfl
      have HE:Hid (ErPost 1 w (.returned (.tuple #[.slice none 0 0,.agg #[.int .i64 0,.int .i64 0,.slice none 0 0],.int .i64 1])) (((w2.setCell ⟨w.heap.size,0,none⟩ (.int .i64 0)).setCell ⟨w.heap.size,1,none⟩ (.int .i64 0)).setCell ⟨w.heap.size,2,none⟩ (.slice none 0 0))):=⟨rfl,RB.stored HBQ2.out (Nat.le_refl _) _ _ _⟩
      have p0:=cell_of_arr S1 0
      have p1:=cell_of_arr S1 1
      have p2:=cell_of_arr S1 2
      simp at p0 p1 p2
      have r0:=cell_of_arr HNQ2.out 0
      have r1:=cell_of_arr HNQ2.out 1
      have r2:=cell_of_arr HNQ2.out 2
      simp at r0 r1 r2
      have f0:=frozen_of_arr HNQ2.out 0
      have f1:=frozen_of_arr HNQ2.out 1
      have f2:=frozen_of_arr HNQ2.out 2
      clear S1 S2 S3
      go_wp2_with fail
      exact bodyPost_ret (v:=.tuple #[.slice none 0 0,.agg #[.int .i64 0,.int .i64 0,.slice none 0 0],.int .i64 1]) (by simp [results,Tryd.results31,go_sem,p0,p1,p2]) rfl HE.out
     ·have h3b:(i==x)=false:=by simpa using h3
      have HV:=Lib.hid h3
      clear h3
      go_upto_region 12 with fail
      go_quiet (fail)
      have HD:Hid (RB wr (wr.drewN nq)):=below_drewN (Below.refl _ _) nq
      go_wp2_with fail
      go_roundw
      case rel=>exact ⟨1,by omega,by go_num,Gq.next (by simp) HNE.out HV.out,RB.trans _ _ _ HC.out HD.out⟩
      case measure=>simp [intOf]
    ·by_cases h3:i=y
     ·have h3b:(i==y)=true:=by simpa using h3
      clear h3
      go_upto_region 12 with fail
      go_quiet (fail)
      have HD:Hid (RB wr (wr.drewN nq)):=below_drewN (Below.refl _ _) nq
      have HNQ2:=Lib.hid (Below.keep HD.out HNQ.out (lt_of_block HNQ.out))
      have HBQ2:=Lib.hid (HBQ.out.trans (HD.out.mono HBQ.out.size))
      clear c0 c1 c2 c3
      generalize wr.drewN nq=w2 at *
      obtain ⟨S1,S2,S3⟩:=put3 HNQ2.out (.int .i64 0) (.int .i64 0) (.slice none 0 0) _ rfl
      have HE:Hid (ErPost 1 w (.returned (.tuple #[.slice none 0 0,.agg #[.int .i64 0,.int .i64 0,.slice none 0 0],.int .i64 1])) (((w2.setCell ⟨w.heap.size,0,none⟩ (.int .i64 0)).setCell ⟨w.heap.size,1,none⟩ (.int .i64 0)).setCell ⟨w.heap.size,2,none⟩ (.slice none 0 0))):=⟨rfl,RB.stored HBQ2.out (Nat.le_refl _) _ _ _⟩
      have p0:=cell_of_arr S1 0
      have p1:=cell_of_arr S1 1
      have p2:=cell_of_arr S1 2
      simp at p0 p1 p2
      have r0:=cell_of_arr HNQ2.out 0
      have r1:=cell_of_arr HNQ2.out 1
      have r2:=cell_of_arr HNQ2.out 2
      simp at r0 r1 r2
      have f0:=frozen_of_arr HNQ2.out 0
      have f1:=frozen_of_arr HNQ2.out 1
      have f2:=frozen_of_arr HNQ2.out 2
      clear S1 S2 S3
      go_wp2_with fail
      exact bodyPost_ret (v:=.tuple #[.slice none 0 0,.agg #[.int .i64 0,.int .i64 0,.slice none 0 0],.int .i64 1]) (by simp [results,Tryd.results31,go_sem,p0,p1,p2]) rfl HE.out
     ·have h3b:(i==y)=false:=by simpa using h3
      have HV:=Lib.hid h3
      clear h3
      go_upto_region 12 with fail
      go_quiet (fail)
      have HD:Hid (RB wr (wr.drewN nq)):=below_drewN (Below.refl _ _) nq
      go_wp2_with fail
      go_roundw
      case rel=>exact ⟨2,by omega,by go_num,Gq.next (by simp) HNE.out HV.out,RB.trans _ _ _ HC.out HD.out⟩
      case measure=>simp [intOf]
    ·go_wp2_with fail
     go_roundw
     case rel=>exact ⟨3,by omega,by go_num,Gd.next (by simp) HG.out h1' h2' HNE.out,HBB.out⟩
     case measure=>simp [intOf]
  ·by_cases h1:r < 100
   ·
    obtain ⟨S1,S2,S3⟩:=put3 HNr.out (.int .i64 0) (.int .i64 0) (.slice none 0 0) _ rfl
    have HE:Hid (ErPost 1 w (.returned (.tuple #[.slice none 0 0,.agg #[.int .i64 0,.int .i64 0,.slice none 0 0],.int .i64 1])) (((wr.setCell ⟨w.heap.size,0,none⟩ (.int .i64 0)).setCell ⟨w.heap.size,1,none⟩ (.int .i64 0)).setCell ⟨w.heap.size,2,none⟩ (.slice none 0 0))):=⟨rfl,RB.stored HBw.out (Nat.le_refl _) _ _ _⟩
    have p0:=cell_of_arr S1 0
    have p1:=cell_of_arr S1 1
    have p2:=cell_of_arr S1 2
    simp at p0 p1 p2
    have r0:=cell_of_arr HNr.out 0
    have r1:=cell_of_arr HNr.out 1
    have r2:=cell_of_arr HNr.out 2
    simp at r0 r1 r2
    have f0:=frozen_of_arr HNr.out 0
    have f1:=frozen_of_arr HNr.out 1
    have f2:=frozen_of_arr HNr.out 2
    clear S1 S2 S3
    go_wp2_with fail
    exact bodyPost_ret (v:=.tuple #[.slice none 0 0,.agg #[.int .i64 0,.int .i64 0,.slice none 0 0],.int .i64 1]) (by simp [results,Tryd.results31,go_sem,p0,p1,p2]) rfl HE.out
   by_cases h2:1000 < r
   ·have h1':100≤r:=by omega
    obtain ⟨S1,S2,S3⟩:=put3 HNr.out (.int .i64 0) (.int .i64 0) (.slice none 0 0) _ rfl
    have HE:Hid (ErPost 1 w (.returned (.tuple #[.slice none 0 0,.agg #[.int .i64 0,.int .i64 0,.slice none 0 0],.int .i64 1])) (((wr.setCell ⟨w.heap.size,0,none⟩ (.int .i64 0)).setCell ⟨w.heap.size,1,none⟩ (.int .i64 0)).setCell ⟨w.heap.size,2,none⟩ (.slice none 0 0))):=⟨rfl,RB.stored HBw.out (Nat.le_refl _) _ _ _⟩
    have p0:=cell_of_arr S1 0
    have p1:=cell_of_arr S1 1
    have p2:=cell_of_arr S1 2
    simp at p0 p1 p2
    have r0:=cell_of_arr HNr.out 0
    have r1:=cell_of_arr HNr.out 1
    have r2:=cell_of_arr HNr.out 2
    simp at r0 r1 r2
    have f0:=frozen_of_arr HNr.out 0
    have f1:=frozen_of_arr HNr.out 1
    have f2:=frozen_of_arr HNr.out 2
    clear S1 S2 S3
    go_wp2_with fail
    exact bodyPost_ret (v:=.tuple #[.slice none 0 0,.agg #[.int .i64 0,.int .i64 0,.slice none 0 0],.int .i64 1]) (by simp [results,Tryd.results31,go_sem,p0,p1,p2]) rfl HE.out
   have h1':100≤r:=by omega
   have h2':r≤1000:=by omega
   go_wp2_with fail
   clear c0 c1 c2 c3
   go_loopw [15] (fun v W=>∃ q:Nat,q≤3∧v=.int .i64 q∧(∀ b (h:b < [x,y,i,r].length),b < q→r≠[x,y,i,r][b])∧RB wr W) (fun v _=>4 - (intOf v).toNat)
   case atStart=>exact ⟨0,by omega,rfl,fun b _ h=>absurd h (by omega),RB.refl _⟩
   case round=>
    obtain ⟨q,hq,rfl,hne,hC⟩:=hrel
    have HNE:=Lib.hid hne
    have HC:=Lib.hid hC
    have HNQ:=Lib.hid (Below.keep hC HNr.out (lt_of_block HNr.out))
    have HBQ:=Lib.hid (HBw.out.trans (hC.mono HBw.out.size))
    have HBB:=Lib.hid (RB.trans _ _ _ HB.out hC)
    have N1:=Below.keep HBB.out HN1.out (lt_of_block HN1.out)
    have c0:=cell_of_arr N1 0
    have c1:=cell_of_arr N1 1
    have c2:=cell_of_arr N1 2
    have c3:=cell_of_arr N1 3
    simp at c0 c1 c2 c3
    clear N1 hne hC
    rcases (show q=0∨q=1∨q=2∨q=3 by omega) with rfl | rfl | rfl | rfl
    ·by_cases h3:r=x
     ·have h3b:(r==x)=true:=by simpa using h3
      clear h3
      go_upto_region 12 with fail
      go_quiet (fail)
      have HD:Hid (RB wr (wr.drewN nq)):=below_drewN (Below.refl _ _) nq
      have HNQ2:=Lib.hid (Below.keep HD.out HNQ.out (lt_of_block HNQ.out))
      have HBQ2:=Lib.hid (HBQ.out.trans (HD.out.mono HBQ.out.size))
      clear c0 c1 c2 c3
      generalize wr.drewN nq=w2 at *
      obtain ⟨S1,S2,S3⟩:=put3 HNQ2.out (.int .i64 0) (.int .i64 0) (.slice none 0 0) _ rfl
      have HE:Hid (ErPost 1 w (.returned (.tuple #[.slice none 0 0,.agg #[.int .i64 0,.int .i64 0,.slice none 0 0],.int .i64 1])) (((w2.setCell ⟨w.heap.size,0,none⟩ (.int .i64 0)).setCell ⟨w.heap.size,1,none⟩ (.int .i64 0)).setCell ⟨w.heap.size,2,none⟩ (.slice none 0 0))):=⟨rfl,RB.stored HBQ2.out (Nat.le_refl _) _ _ _⟩
      have p0:=cell_of_arr S1 0
      have p1:=cell_of_arr S1 1
      have p2:=cell_of_arr S1 2
      simp at p0 p1 p2
      have r0:=cell_of_arr HNQ2.out 0
      have r1:=cell_of_arr HNQ2.out 1
      have r2:=cell_of_arr HNQ2.out 2
      simp at r0 r1 r2
      have f0:=frozen_of_arr HNQ2.out 0
      have f1:=frozen_of_arr HNQ2.out 1
      have f2:=frozen_of_arr HNQ2.out 2
      clear S1 S2 S3
      go_wp2_with fail
      exact bodyPost_ret (v:=.tuple #[.slice none 0 0,.agg #[.int .i64 0,.int .i64 0,.slice none 0 0],.int .i64 1]) (by simp [results,Tryd.results31,go_sem,p0,p1,p2]) rfl HE.out
     ·have h3b:(r==x)=false:=by simpa using h3
      have HV:=Lib.hid h3
      clear h3
      go_upto_region 12 with fail
      go_quiet (fail)
      have HD:Hid (RB wr (wr.drewN nq)):=below_drewN (Below.refl _ _) nq
      go_wp2_with fail
      go_roundw
      case rel=>exact ⟨1,by omega,by go_num,Gq.next (by simp) HNE.out HV.out,RB.trans _ _ _ HC.out HD.out⟩
      case measure=>simp [intOf]
    ·by_cases h3:r=y
     ·have h3b:(r==y)=true:=by simpa using h3
      clear h3
      go_upto_region 12 with fail
      go_quiet (fail)
      have HD:Hid (RB wr (wr.drewN nq)):=below_drewN (Below.refl _ _) nq
      have HNQ2:=Lib.hid (Below.keep HD.out HNQ.out (lt_of_block HNQ.out))
      have HBQ2:=Lib.hid (HBQ.out.trans (HD.out.mono HBQ.out.size))
      clear c0 c1 c2 c3
      generalize wr.drewN nq=w2 at *
      obtain ⟨S1,S2,S3⟩:=put3 HNQ2.out (.int .i64 0) (.int .i64 0) (.slice none 0 0) _ rfl
      have HE:Hid (ErPost 1 w (.returned (.tuple #[.slice none 0 0,.agg #[.int .i64 0,.int .i64 0,.slice none 0 0],.int .i64 1])) (((w2.setCell ⟨w.heap.size,0,none⟩ (.int .i64 0)).setCell ⟨w.heap.size,1,none⟩ (.int .i64 0)).setCell ⟨w.heap.size,2,none⟩ (.slice none 0 0))):=⟨rfl,RB.stored HBQ2.out (Nat.le_refl _) _ _ _⟩
      have p0:=cell_of_arr S1 0
      have p1:=cell_of_arr S1 1
      have p2:=cell_of_arr S1 2
      simp at p0 p1 p2
      have r0:=cell_of_arr HNQ2.out 0
      have r1:=cell_of_arr HNQ2.out 1
      have r2:=cell_of_arr HNQ2.out 2
      simp at r0 r1 r2
      have f0:=frozen_of_arr HNQ2.out 0
      have f1:=frozen_of_arr HNQ2.out 1
      have f2:=frozen_of_arr HNQ2.out 2
      clear S1 S2 S3
      go_wp2_with fail
      exact bodyPost_ret (v:=.tuple #[.slice none 0 0,.agg #[.int .i64 0,.int .i64 0,.slice none 0 0],.int .i64 1]) (by simp [results,Tryd.results31,go_sem,p0,p1,p2]) rfl HE.out
     ·have h3b:(r==y)=false:=by simpa using h3
      have HV:=Lib.hid h3
      clear h3
      go_upto_region 12 with fail
      go_quiet (fail)
      have HD:Hid (RB wr (wr.drewN nq)):=below_drewN (Below.refl _ _) nq
      go_wp2_with fail
      go_roundw
      case rel=>exact ⟨2,by omega,by go_num,Gq.next (by simp) HNE.out HV.out,RB.trans _ _ _ HC.out HD.out⟩
      case measure=>simp [intOf]
    ·by_cases h3:r=i
     ·have h3b:(r==i)=true:=by simpa using h3
      clear h3
      go_upto_region 12 with fail
      go_quiet (fail)
      have HD:Hid (RB wr (wr.drewN nq)):=below_drewN (Below.refl _ _) nq
      have HNQ2:=Lib.hid (Below.keep HD.out HNQ.out (lt_of_block HNQ.out))
      have HBQ2:=Lib.hid (HBQ.out.trans (HD.out.mono HBQ.out.size))
      clear c0 c1 c2 c3
      generalize wr.drewN nq=w2 at *
      obtain ⟨S1,S2,S3⟩:=put3 HNQ2.out (.int .i64 0) (.int .i64 0) (.slice none 0 0) _ rfl
      have HE:Hid (ErPost 1 w (.returned (.tuple #[.slice none 0 0,.agg #[.int .i64 0,.int .i64 0,.slice none 0 0],.int .i64 1])) (((w2.setCell ⟨w.heap.size,0,none⟩ (.int .i64 0)).setCell ⟨w.heap.size,1,none⟩ (.int .i64 0)).setCell ⟨w.heap.size,2,none⟩ (.slice none 0 0))):=⟨rfl,RB.stored HBQ2.out (Nat.le_refl _) _ _ _⟩
      have p0:=cell_of_arr S1 0
      have p1:=cell_of_arr S1 1
      have p2:=cell_of_arr S1 2
      simp at p0 p1 p2
      have r0:=cell_of_arr HNQ2.out 0
      have r1:=cell_of_arr HNQ2.out 1
      have r2:=cell_of_arr HNQ2.out 2
      simp at r0 r1 r2
      have f0:=frozen_of_arr HNQ2.out 0
      have f1:=frozen_of_arr HNQ2.out 1
      have f2:=frozen_of_arr HNQ2.out 2
      clear S1 S2 S3
      go_wp2_with fail
      exact bodyPost_ret (v:=.tuple #[.slice none 0 0,.agg #[.int .i64 0,.int .i64 0,.slice none 0 0],.int .i64 1]) (by simp [results,Tryd.results31,go_sem,p0,p1,p2]) rfl HE.out
     ·have h3b:(r==i)=false:=by simpa using h3
      have HV:=Lib.hid h3
      clear h3
      go_upto_region 12 with fail
      go_quiet (fail)
      have HD:Hid (RB wr (wr.drewN nq)):=below_drewN (Below.refl _ _) nq
      go_wp2_with fail
      go_roundw
      case rel=>exact ⟨3,by omega,by go_num,Gq.next (by simp) HNE.out HV.out,RB.trans _ _ _ HC.out HD.out⟩
      case measure=>simp [intOf]
    ·go_wp2_with fail
     go_roundw
     case rel=>exact ⟨4,by omega,by go_num,Gd.next (by simp) HG.out h1' h2' HNE.out,HBB.out⟩
     case measure=>simp [intOf]
  ·exact absurd HG.out HBad.out
end Go.Proofs.YtkgbjoepjcenlaaDoor
