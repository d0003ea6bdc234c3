/- Joined texts. -/
import Derived.Test.YtelefkkkccilaaaDoorJC
import Derived.Test.YtelefkkkccilaaaDoorJD
import Derived.Test.YtelefkkkccilaaaDoorJK
import Derived.Test.YtelefkkkccilaaaDoorJH
set_option linter.unusedVariables false
set_option linter.unusedSimpArgs false
namespace Go.Proofs.YtelefkkkccilaaaDoor
open Am Go.RowKit
set_option maxRecDepth 100000
theorem getD_more {b m:List UInt8} {p:Nat} (h:p < b.length):(b ++ m).getD p 0=b.getD p 0:=by
 rw [List.getD_eq_getElem?_getD,List.getD_eq_getElem?_getD,List.getElem?_append_left h]
theorem hdP_more {b m:List UInt8} {p it ck:Nat} {R:Nat × Nat × Nat × Nat × Nat} (h:hdP b p it ck=.ok R) (hp:p≤b.length):hdP (b ++ m) p it ck=.ok R∧p < b.length:=by
 unfold hdP at h
 split at h
 ·cases h
 rename_i h1
 split at h
 ·cases h
 rename_i h2
 have hlt:p < b.length:=by omega
 refine ⟨?_,hlt⟩;unfold hdP;rw [getD_more hlt,if_neg h1,if_neg (by rw [List.length_append];omega)]
 split at h
 ·cases h
 rename_i h3
 rw [if_neg h3]
 split at h
 ·cases h
 rename_i h4
 rw [if_neg h4]
 split at h
 ·rename_i h5;rw [if_pos h5];exact h
 rename_i h5
 rw [if_neg h5]
 split at h
 ·rename_i h6;rw [if_pos h6];exact h
 rename_i h6
 rw [if_neg h6]
 split at h
 ·cases h
 rename_i h7
 rw [if_neg (by rw [List.length_append];omega)];have e:((b ++ m).drop (p + 1)).take (2 ^ ((b.getD p 0).toNat % 32 - 24))=(b.drop (p + 1)).take (2 ^ ((b.getD p 0).toNat % 32 - 24)):=by
  rw [List.drop_append_of_le_length (by omega),List.take_append_of_le_length (by rw [List.length_drop];omega)]
 rw [e];exact h
mutual
theorem gi_more {b m:List UInt8}:∀ {g lv p it ck:Nat} {t:Gt} {q i:Nat},gi b g lv p it ck=.ok (t,q,i)→it≤256→p≤b.length→gi (b ++ m) g lv p it ck=.ok (t,q,i)
 | 0,lv,p,it,ck,t,q,i,h,hit,hp=>by rw [gi] at h;cases h
 | g + 1,lv,p,it,ck,t,q,i,h,hit,hp=>by
   rw [gi] at h ⊢;cases hh:hdP b p it ck with
   | error e=>rw [hh] at h;cases h
   | ok y=>
     obtain ⟨mj,lw,n,z,q0⟩:=y;obtain ⟨e1,hlt⟩:=hdP_more (m:=m) hh hp;have hb:=hdP_ok hh;have hq0:q0≤b.length:=hb.2.2.2.2.2.2.1 hlt;have h256:=hb.1;rw [hh] at h;rw [e1];simp only at h ⊢
     split at h
     ·rename_i hm
      rw [if_pos hm]
      split at h
      ·rename_i hl
       rw [if_pos hl];cases hg:gl b g lv q0 (it + 1) none mj with
       | error e=>rw [hg] at h;cases h
       | ok y=>
         obtain ⟨l,r,j⟩:=y;rw [gl_more hg (by omega) hq0];rw [hg] at h;exact h
      ·rename_i hl
       rw [if_neg hl]
       split at h
       ·rename_i hn
        rw [if_pos (by rw [List.length_append];omega)];exact h
       ·cases h
     ·rename_i hm
      rw [if_neg hm]
      split at h
      ·rename_i h2
       rw [if_pos h2];exact h
      ·rename_i h2
       rw [if_neg h2]
       split at h
       ·cases h
       ·rename_i h8
        rw [if_neg h8];cases hg:gl b g (lv + 1) q0 (it + 1) (if lw=31 then none else some (cntP mj n)) 8 with
        | error e=>rw [hg] at h;cases h
        | ok y=>
          obtain ⟨l,r,j⟩:=y;rw [gl_more hg (by omega) hq0];rw [hg] at h;exact h
theorem gl_more {b m:List UInt8}:∀ {g lv p it:Nat} {c:Option Nat} {ck:Nat} {l:List Gt} {q i:Nat},gl b g lv p it c ck=.ok (l,q,i)→it≤256→p≤b.length→gl (b ++ m) g lv p it c ck=.ok (l,q,i)
 | 0,lv,p,it,c,ck,l,q,i,h,hit,hp=>by rw [gl] at h;cases h
 | g + 1,lv,p,it,c,ck,l,q,i,h,hit,hp=>by
   rw [gl] at h ⊢
   split at h
   ·rename_i h0
    rw [if_pos h0];exact h
   ·rename_i h0
    rw [if_neg h0];rcases Nat.eq_or_lt_of_le hp with rfl | hlt
    ·rw [List.getElem?_eq_none (Nat.le_refl _),if_neg (by simp)] at h
     cases hg:gi b g lv b.length it ck with
     | error e=>rw [hg] at h;cases h
     | ok y=>
       obtain ⟨t,q1,i1⟩:=y
       exfalso
       cases g with
       | zero=>rw [gi] at hg;cases hg
       | succ g=>
         rw [gi] at hg;cases hh:hdP b b.length it ck with
         | error e=>rw [hh] at hg;cases hg
         | ok y=>have:=(hdP_more (m:=m) hh (Nat.le_refl _)).2;omega
    ·rw [List.getElem?_append_left hlt]
     split at h
     ·rename_i h1
      rw [if_pos h1];exact h
     ·rename_i h1
      rw [if_neg h1];cases hg:gi b g lv p it ck with
      | error e=>rw [hg] at h;cases h
      | ok y=>
        obtain ⟨t,q1,i1⟩:=y;have hb:=gi_bd hg hit hp;rw [gi_more hg hit hp];rw [hg] at h;simp only at h ⊢;cases hl:gl b g lv q1 i1 (c.map (· - 1)) ck with
        | error e=>rw [hl] at h;cases h
        | ok y=>
          obtain ⟨l1,r,j⟩:=y;rw [gl_more hl hb.2.1 hb.2.2.2];rw [hl] at h;exact h
end
theorem read_more {b m:List UInt8} {t:Gt} {q i:Nat} (h:readP b=.ok (t,q,i)) (hb:b.length≤4096):readP (b ++ m)=.ok (t,q,i):=by
 unfold readP at h ⊢;rw [List.take_of_length_le hb] at h;rw [List.take_append,List.take_of_length_le hb];exact gi_more h (by omega) (by omega)
theorem means_all {x:It} {l more:List UInt8} (hw:It.wf 8 x=true) (hg:GE x l) (hl:l.length≤4096):(scanP (readP l)).1=0∨(scanP (readP (l ++ more))=(l.length,0)∧scanP (readP l)=(l.length,0)∧cnP l=.ok x):=by
 rcases means_cnP hw hg hl with ⟨e,h⟩ | ⟨⟨t,i,h⟩,h2⟩
 ·rw [h];exact .inl rfl
 ·rw [read_more h hl,h];exact .inr ⟨rfl,rfl,h2⟩
set_option maxHeartbeats 4000000 in
theorem means_law (L:List Int) (more:List UInt8) (hL:L.length≤9223372036854775807) (hmo:more.length≤9223372036854775807):AC Tryd.prog XU 4 [.sl L.length 1 (nts L),bsl more] [] fun r rows=>r=bov true∧rows=[]:=by
 refine AC.bodyW false Tryd.func4 rfl Tryd.call4 Tryd.ntmps4 (by simp) fun e nx=>?_
 go_simp
 refine sqc ?_;go_simp;refine sqc ?_;go_simp;refine cl [] [] (mshort_c XU more hmo) (by go_simp) ?_;rintro r rows ⟨rfl,rfl⟩;go_simp
 refine ifn (fun h=>?_) (fun h=>?_) <;> go_simp
 ·refine cl [] [] awakez_c (by go_simp) ?_
  rintro r rows ⟨rfl,rfl⟩;go_simp
 refine sqc ?_;go_simp;refine cl [] [] (new_c (X:=XU) L) (by go_simp) ?_;rintro r rows ⟨rfl,rfl⟩;go_simp
 refine sqc ?_;go_simp;refine cl [] [23] (ditem_any 4 (by omega) 23 nx L 0 hL (Nat.zero_le _)) (by go_simp) ?_;rintro r rows ⟨x,rfl,hv,a1,ha1,rfl⟩;obtain ⟨hw,hz⟩:=It.valid_gsz hv;obtain ⟨xk,xn,xb,xs⟩:=x;go_simp
 refine sqc ?_;go_simp;refine cl [] [23] (general_any (X:=XU) 8 (.mk xk xn xb xs) hw (by omega) 23 nx L a1 hL ha1) (by go_simp) ?_;rintro r rows ⟨l,a2,hg,ha2,rfl,rfl⟩;go_simp
 refine sqc ?_;go_simp;refine ifd (fun hl=>?_) (fun hl=>?_) <;> go_simp
 ·refine cl [] [] awakez_c (by go_simp) ?_
  rintro r rows ⟨rfl,rfl⟩;go_simp
 have hll:l.length≤2048:=by omega
 clear hl;have HF:=Lib.hid (means_all (more:=more) hw hg (by omega));have hs1:=scanz_c (l ++ more) (by rw [List.length_append];omega);have hs2:=rscan_c l (by omega);have h46:=item46_any l (by omega);have h48:=canon48_c l (by omega);have hen:=encode_c (.mk xk xn xb xs) (It.valid_fits hv) hv;have HX:=Lib.hid (fun x (h:cnP l=.ok x)=>cnP_ok h);generalize scanP (readP (l ++ more))=q1 at *;generalize scanP (readP l)=q2 at *;generalize cnP l=R at *;refine sqc ?_;go_simp;rw [show Tryd.t5.bytes=1 from rfl];refine ⟨⟨by omega,by omega⟩,⟨by omega,by omega⟩,?_⟩;rw [show l.length + more.length=(l ++ more).length by simp];refine cl (C:=fun r rows=>r=.tup [iv q1.1,iv q1.2]∧rows=[]) [35] [] (by simp only [List.map_cons,List.map_nil];simp [arg,cv,frzH,go_sem,-List.length_append];exact hs1) (by go_simp) ?_;rintro r rows ⟨rfl,rfl⟩;clear hs1;go_simp
 rcases HF.out with h0 | ⟨h1,h2,h3⟩
 ·clear HF
  have H0:=Lib.hid h0;clear h0;cases R with
  | error e'=>
    clear HX;refine sqc ?_;go_simp;refine cl (C:=IcN isI (.error e')) [28] [] (by simp [arg,cv,frzH,go_sem];exact h46) (by go_simp) ?_;rintro r rows ⟨rfl,rfl⟩;clear h46;go_simp
    refine sqc ?_;go_simp;refine cl (C:=CaC (.error e')) [28] [] (by simp [arg,cv,frzH,go_sem];exact h48) (by go_simp) ?_;rintro r rows ⟨rfl,rfl⟩;clear h48;go_simp
    refine sqc ?_;go_simp;refine cl [] [] hen (by go_simp) ?_;rintro r rows ⟨rfl,rfl⟩;clear hen;go_simp
    refine sqc ?_;go_simp;refine cl (C:=fun r rows=>r=.tup [iv q2.1,iv q2.2]∧rows=[]) [28] [] (by simp [arg,cv,frzH,go_sem];exact hs2) (by go_simp) ?_;rintro r rows ⟨rfl,rfl⟩;rw [H0.out];go_simp
    refine sqc ?_;go_simp;refine cl [] [] awakez_c (by go_simp) ?_;rintro r rows ⟨rfl,rfl⟩;go_simp
  | ok y=>
    clear HX;obtain ⟨yk,yn,yb,ys⟩:=y;refine sqc ?_;go_simp;refine cl (C:=IcN isI (.ok (.mk yk yn yb ys))) [28] [] (by simp [arg,cv,frzH,go_sem];exact h46) (by go_simp) ?_;rintro r rows ⟨a,rfl,rfl,rfl⟩;clear h46;go_simp
    generalize (fl0 (bsl yb) && fl0 (isl ys))=fb at *;refine ⟨by cases fb <;> simp,?_⟩
    refine sqc ?_;go_simp;refine cl (C:=CaC (.ok (.mk yk yn yb ys))) [28] [] (by simp [arg,cv,frzH,go_sem];exact h48) (by go_simp) ?_;rintro r rows ⟨rfl,rfl⟩;clear h48;go_simp
    refine sqc ?_;go_simp;refine cl [] [] hen (by go_simp) ?_;rintro r rows ⟨rfl,rfl⟩;clear hen;go_simp
    refine sqc ?_;go_simp;refine cl (C:=fun r rows=>r=.tup [iv q2.1,iv q2.2]∧rows=[]) [28] [] (by simp [arg,cv,frzH,go_sem];exact hs2) (by go_simp) ?_;rintro r rows ⟨rfl,rfl⟩;rw [H0.out];go_simp
    refine sqc ?_;go_simp;refine cl [] [] awakez_c (by go_simp) ?_;rintro r rows ⟨rfl,rfl⟩;go_simp
 ·subst h1 h2 h3
  clear HF HX;refine sqc ?_;go_simp;refine cl (C:=IcN isI (.ok (.mk xk xn xb xs))) [28] [] (by simp [arg,cv,frzH,go_sem];exact h46) (by go_simp) ?_;rintro r rows ⟨a,rfl,rfl,rfl⟩;clear h46;go_simp
  generalize (fl0 (bsl xb) && fl0 (isl xs))=fb at *;refine ⟨by cases fb <;> simp,?_⟩
  refine sqc ?_;go_simp;refine cl (C:=CaC (.ok (.mk xk xn xb xs))) [28] [] (by simp [arg,cv,frzH,go_sem];exact h48) (by go_simp) ?_;rintro r rows ⟨rfl,rfl⟩;clear h48;go_simp
  refine sqc ?_;go_simp;refine cl [] [] hen (by go_simp) ?_;rintro r rows ⟨rfl,rfl⟩;clear hen;go_simp
  refine sqc ?_;go_simp;refine cl (C:=fun r rows=>r=.tup [iv (l.length,0).1,iv (l.length,0).2]∧rows=[]) [28] [] (by simp [arg,cv,frzH,go_sem];exact hs2) (by go_simp) ?_;rintro r rows ⟨rfl,rfl⟩;go_simp
  generalize (It.mk xk xn xb xs).enc=E at *;have hsm:=same_i XU (.mk xk xn xb xs) hv;clear hs2;refine sqc ?_;go_simp;refine ifd (fun hl=>?_) (fun hl=>?_) <;> go_simp
  ·refine cl [] [] awakez_c (by go_simp) ?_
   rintro r rows ⟨rfl,rfl⟩;go_simp
  refine sqc ?_;go_simp;refine cl [] [] hsm (by go_simp) ?_;rintro r rows ⟨rfl,rfl⟩;go_simp
  refine cl [] [] awakez_c (by go_simp) ?_;rintro r rows ⟨rfl,rfl⟩;go_simp
  refine gw ?_;go_simp
theorem means_any (la a:Option Addr) (ln lc n c:Nat) (l:List UInt8) (w:World) (hL:InL w la ln) (hlc:ln≤lc) (hlm:lc≤9223372036854775807) (hR:BR (fun b=>b < w.heap.size) w a n l) (hc:n≤c) (hcm:c≤9223372036854775807) (hE:Env w):
 Calls Tryd.prog 4 #[.slice la ln lc,.slice a n c] w fun e w'=>e=.returned (.bool true)∧Below w.heap.size w w':=by
 obtain ⟨L,hl,hh⟩:=hl_of hL ⟨hlc,hlm⟩;have hl2:=hL.1;refine (AC.calls (D:=fun v=>v=.bool true) (means_law L l (by omega) (by have:=hR.1;have:=hR.2.1;omega)) Tryd.call4 ?_ hE (vals:=[.slice la ln lc,.slice a n c]) ⟨hh _ (fun b hb=>hb),hb_of hR (fun b hb _=>hb) ⟨hc,hcm⟩,trivial⟩).mono ?_
 ·rintro g w r rows v nx ⟨rfl,rfl⟩ hv
  exact hv
 ·rintro e w' ⟨v,he,rfl,hB⟩
  exact ⟨he,hB⟩
end Go.Proofs.YtelefkkkccilaaaDoor
