/- Joined texts. -/
import Derived.Test.YtelefkkkccilaaaGreatDoorJK
import Derived.Test.YtelefkkkccilaaaGreatDoorJH
import Derived.Test.YtelefkkkccilaaaGreatDoorJG
import Derived.Test.YtelefkkkccilaaaGreatDoorJF
set_option linter.unusedVariables false
set_option linter.unusedSimpArgs false
namespace Go.Proofs.YtelefkkkccilaaaGreatDoor
open Am Go.RowKit
set_option maxRecDepth 100000
theorem pref76z_c (b:List UInt8) (hb:b.length≤1000000000):AC Tryz.prog XU 76 [bsl b] [] fun r rows=>r=bov (prefP b (readP b))∧rows=[]:=by
 refine AC.bodyW false Tryz.func76 rfl Tryz.call76 Tryz.ntmps76 (by simp) fun e nx=>AW.xl (gw ?_)
 go_simp
 refine cl [] [] (readz_c e.w0.heap.size b hb) (by go_simp) ?_;rintro r rows hI;cases hR:readP b with
 | error e'=>
   rw [hR] at hI;have hne:e'≠0:=gi_err hR;clear hR;obtain ⟨⟨a,⟨kz,rfl⟩,rfl⟩,p2,it2,lo2,bt2,rfl⟩:=hI;go_simp
   rfl
 | ok y=>
   obtain ⟨t,p2,it2⟩:=y;rw [hR] at hI;clear hR;obtain ⟨S,_,_,rfl,rfl⟩:=hI;have hP:prefP b (.ok (t,p2,it2))=(decide (p2=b.length) && !t.loose):=rfl;have HP:=dh hP;clear hP;go_simp
   refine gdd (fun h=>?_) (fun h=>?_) <;> go_simp
   ·rw [HP.out,decide_eq_true (show p2=b.length by omega)];simp
   ·rw [HP.out,decide_eq_false (show ¬ p2=b.length by omega)];rfl
theorem det_enc {x:It} (hv:x.valid=true):It.Q.detP x.enc=true:=by
 unfold It.Q.detP;rw [It.decode_enc hv]
theorem det_iff {b:List UInt8} {x:It} (h:cnP b=.ok x):It.Q.detP b=(b==x.enc):=by
 by_cases hb:b=x.enc
 ·rw [beq_iff_eq.2 hb,hb]
  exact det_enc (cnP_ok h)
 ·rw [beq_eq_false_iff_ne.2 hb]
  unfold It.Q.detP;cases hd:It.decodeP b with
  | err e=>rfl
  | ok y=>
    exfalso
    obtain ⟨h1,h2⟩:=It.decode_ok hd;have h3:=fixed_cnP h2;rw [h1,h] at h3;cases h3
    exact hb h1.symm
set_option maxHeartbeats 4000000 in
theorem fixed_law (raw:List UInt8) (L:List Int) (p q:Int) (hraw:raw.length≤9223372036854775807) (hL:L.length≤9223372036854775807) (hq0: -9223372036854775808≤q) (hq1:q≤9223372036854775807):AC Tryz.prog XU 16 [bsl raw,.sl L.length 1 (nts L),iv p,iv q] [] fun r rows=>r=bov true∧rows=[]:=by
 refine AC.bodyW false Tryz.func16 rfl Tryz.call16 Tryz.ntmps16 (by simp) fun e nx=>?_
 go_simp
 refine sqc ?_;go_simp;refine sqc ?_;go_simp;refine cl [] [] (mshort_c XU raw hraw) (by go_simp) ?_;rintro r rows ⟨rfl,rfl⟩;go_simp
 refine ifn (fun h=>?_) (fun h=>?_) <;> go_simp
 ·refine cl [] [] awakez_c (by go_simp) ?_
  rintro r rows ⟨rfl,rfl⟩;go_simp
 ·refine sqc ?_;go_simp
  refine cl [] [] (inputs_c raw L p q h hL hq0 hq1) (by go_simp) ?_;rintro r rows ⟨Ls,hl6,hLs,rfl,rfl⟩;go_simp
  have HLS:=dh hLs;have H6:=dh hl6;clear hLs hl6;refine lp (α:=Nat × Nat) (fun x=>x.2≤6) (fun x=>⟨[(8,.v (.bool false)),(23,.sl 6 1 (rws Ls)),(24,iv 6),(25,iv x.2)],[],x.1,[],72⟩) (fun x=>6 - x.2) [] [] (nx,0) ?_ ?_
  ·go_simp
  ·rintro ⟨u,i⟩ hi
   replace hi:i≤6:=hi
   dsimp only
   refine gw ?_;go_simp
   refine ifd (fun h=>?_) (fun h=>?_) <;> go_simp
   ·have hi6:i < Ls.length:=by rw [H6.out];omega
    rw [rws_sub Ls i hi6];have hb:=HLS.out Ls[i] (List.getElem_mem hi6);generalize Ls[i]=b at *;have h48:=canon48_c b (by omega);have hdt:=det78_c b (by omega);cases hR:cnP b with
    | error e'=>
      have hne:=cnP_err hR;rw [hR] at h48;clear hR hdt;go_simp
      refine cl [] [] h48 (by go_simp) ?_;rintro r rows ⟨rfl,rfl⟩;clear h48;go_simp;go_bits
      exact ⟨_,i + 1,by omega,by omega,Nat.le_refl _,by omega⟩
    | ok x=>
      have hxv:=cnP_ok hR;rw [det_iff hR] at hdt;rw [hR] at h48;have hl4:x.enc.length≤4096:=by
       have:=hxv;unfold It.valid at this;simp only [Bool.and_eq_true,decide_eq_true_eq] at this;exact this.2
      have h48':=canon48_c x.enc (by omega);rw [fixed_cnP hxv] at h48';have hd':=det78_c x.enc (by omega);rw [det_enc hxv] at hd';have hp':=pref76z_c x.enc (by omega);rw [fixed_pref hxv] at hp';clear hR;go_simp
      refine cl [] [] h48 (by go_simp) ?_;rintro r rows ⟨rfl,rfl⟩;clear h48;go_simp
      refine cl [] [] h48' (by go_simp) ?_;rintro r rows ⟨rfl,rfl⟩;clear h48';go_simp
      refine rgp [0,1,2,3,4,5,6,7,8,9,10,11,12,13,14,15,16,17,18,19,20,22,23,24,25,26,21,27,28] hmx (by kernel_rfl) ?_;generalize tab _=T;generalize hKK:(Th _ _ Exit.normal)=KK;unfold osP;simp only [List.map_cons,List.map_nil,List.getElem?_toArray,List.getElem?_cons_succ,List.getElem?_cons_zero,Option.getD_some]
      iterate 11
       first | rw [Am.dch_one] | rw [Am.dch_gd]
       generalize hJ:dch _ _ _ _ _ _ _ _=JJ;go_simp
       subst hJ
      first | rw [Am.dch_one] | rw [Am.dch_gd]
      generalize hJ:dch _ _ _ _ _ _ _ _=JJ;go_simp
      refine cl [] [] hd' (by go_simp) ?_;rintro r rows ⟨rfl,rfl⟩;clear hd';go_simp
      subst hJ
      iterate 4
       first | rw [Am.dch_one] | rw [Am.dch_gd]
       generalize hJ:dch _ _ _ _ _ _ _ _=JJ;go_simp
       subst hJ
      first | rw [Am.dch_one] | rw [Am.dch_gd]
      generalize hJ:dch _ _ _ _ _ _ _ _=JJ;go_simp
      refine cl [] [] hp' (by go_simp) ?_;rintro r rows ⟨rfl,rfl⟩;clear hp';go_simp
      subst hJ
      iterate 9
       first | rw [Am.dch_one] | rw [Am.dch_gd]
       generalize hJ:dch _ _ _ _ _ _ _ _=JJ;go_simp
       subst hJ
      first | rw [Am.dch_one] | rw [Am.dch_gd]
      generalize hJ:dch _ _ _ _ _ _ _ _=JJ;go_simp
      refine cl [] [] hdt (by go_simp) ?_;rintro r rows ⟨rfl,rfl⟩;clear hdt;go_simp
      subst hJ
      iterate 2
       first | rw [Am.dch_one] | rw [Am.dch_gd]
       generalize hJ:dch _ _ _ _ _ _ _ _=JJ;go_simp
       subst hJ
      subst hKK;go_simp
      exact ⟨_,i + 1,by omega,by omega,Nat.le_refl _,by rw [Go.IntWalk.i64_in _ (by omega)];omega⟩
   ·refine gw ?_;go_simp
    refine cl [] [] awakez_c (by go_simp) ?_;rintro r rows ⟨rfl,rfl⟩;go_simp
theorem fixed_any (a la:Option Addr) (n c ln lc:Nat) (l:List UInt8) (p q:Int) (w:World) (hq0: -9223372036854775808≤q) (hq1:q≤9223372036854775807) (hR:BR (fun b=>b < w.heap.size) w a n l) (hc:n≤c) (hcm:c≤9223372036854775807) (hL:InL w la ln) (hlc:ln≤lc) (hlm:lc≤9223372036854775807) (hE:Env w):
 Calls Tryz.prog 16 #[.slice a n c,.slice la ln lc,.int .i64 p,.int .i64 q] w fun e w'=>e=.returned (.bool true)∧Below w.heap.size w w':=by
 obtain ⟨L,hl,hh⟩:=hl_of hL ⟨hlc,hlm⟩;have hl2:=hL.1;refine (AC.calls (D:=fun v=>v=.bool true) (fixed_law l L p q (by have:=hR.1;have:=hR.2.1;omega) (by omega) hq0 hq1) Tryz.call16 ?_ hE (vals:=[.slice a n c,.slice la ln lc,.int .i64 p,.int .i64 q]) ⟨hb_of hR (fun b hb _=>hb) ⟨hc,hcm⟩,hh _ (fun b hb=>hb),rfl,rfl,trivial⟩).mono ?_
 ·rintro g w r rows v nx ⟨rfl,rfl⟩ hv
  exact hv
 ·rintro e w' ⟨v,he,rfl,hB⟩
  exact ⟨he,hB⟩
end Go.Proofs.YtelefkkkccilaaaGreatDoor
