/- Joined texts. -/
import Derived.Test.YtkgbjoepjcenlaaDoorKBD
set_option linter.unusedVariables false
set_option linter.unusedSimpArgs false
namespace Go.Proofs.YtkgbjoepjcenlaaDoor
open Am Go.RowKit
set_option maxRecDepth 100000
theorem mod_bd (a:Int) (n:Int) (h:0 < n):0≤a % n∧a % n < n:=⟨Int.emod_nonneg a (by omega),Int.emod_lt_of_pos a h⟩
theorem pair_c (a b c d e:Int):∃ (L:List Tm) (T:Tm) (E:Int),AC Tryd.prog XE 30 [iv a,iv b,iv c,iv d,iv e] [] (fun r rows=>r=.tup [tsl L,tmS T,iv E]∧rows=[])∧AC Tryd.prog XE 31 [iv a,iv b,iv c,iv d,iv e] [] (fun r rows=>r=.tup [tsl L,tmS T,iv E]∧rows=[])∧AC Tryd.prog XE 32 [tsl L,tsl L] [] (fun r rows=>r=bov true∧rows=[])∧AC Tryd.prog XE 22 [tmS T,tmS T] [] (fun r rows=>r=iv 0∧rows=[]):=
 ⟨_,_,_,exch_c XE a b c d e,rexchA_c XE a b c d e,rsame_c XE _ (exP_ok a b c d e).1,by
  have:=rcompare_c XE _ _ (exP_ok a b c d e).2 (exP_ok a b c d e).2
  rwa [Tm.compare_self] at this⟩
def sm (ld:List Int) (j:Nat):List Int:=(ld.take j).map fun q=>100 + q % 4
theorem sm_zero (ld:List Int):sm ld 0=[]:=by simp [sm]
theorem sm_succ (ld:List Int) (j:Nat) (h:j < ld.length):sm ld (j + 1)=sm ld j ++ [100 + ld[j] % 4]:=by
 rw [sm,List.take_succ_eq_append_getElem h,List.map_append];rfl
theorem sm_len (ld:List Int) (j:Nat) (h:j≤ld.length):(sm ld j).length=j:=by simp [sm];omega
theorem sm_bd (ld:List Int) (j:Nat):∀ q ∈ sm ld j,100≤q∧q≤103:=fun q hq=>by
 obtain ⟨p,_,rfl⟩:=List.mem_map.1 hq
 have:=mod_bd p 4 (by omega)
 omega
theorem cv_iv (H:Nat→Option Row) (n:Nat):(cv H (n + 1) ∘ iv)=iv:=rfl
set_option maxHeartbeats 8000000 in
theorem exchanges_law (m x y i r:Int) (ld:List Int) (hb:∀ q ∈ ld,-9223372036854775808≤q∧q≤9223372036854775807) (hl:ld.length≤9223372036854775807):AC Tryd.prog XE 6 [iv m,iv x,iv y,iv i,iv r,isl ld] [] fun r rows=>r=bov true∧rows=[]:=by
 have HB:=Lib.hid hb
 have M0:=mod_c XE m 4 (by omega) (by omega)
 have M1:=mod_c XE x 901 (by omega) (by omega)
 have M2:=mod_c XE y 901 (by omega) (by omega)
 have M3:=mod_c XE i 901 (by omega) (by omega)
 have M4:=mod_c XE r 901 (by omega) (by omega)
 have M5:=mod_c XE m 5 (by omega) (by omega)
 obtain ⟨b0,b0'⟩:=mod_bd m 4 (by omega)
 obtain ⟨b1,b1'⟩:=mod_bd x 901 (by omega)
 obtain ⟨b2,b2'⟩:=mod_bd y 901 (by omega)
 obtain ⟨b3,b3'⟩:=mod_bd i 901 (by omega)
 obtain ⟨b4,b4'⟩:=mod_bd r 901 (by omega)
 obtain ⟨b5,b5'⟩:=mod_bd m 5 (by omega)
 clear hb
 generalize m % 4=m4 at *
 generalize x % 901=x9 at *
 generalize y % 901=y9 at *
 generalize i % 901=i9 at *
 generalize r % 901=r9 at *
 generalize m % 5=m5 at *
 refine AC.bodyW false Tryd.func6 rfl Tryd.call6 Tryd.ntmps6 (by simp) fun e nx=>?_
 go_simp
 refine sqc ?_;go_simp
 refine sqc ?_;go_simp
 refine ifd (fun h20=>?_) (fun h20=>?_) <;> go_simp
 ·refine cl [] [] awake_c (by go_simp) ?_
  rintro r rows ⟨rfl,rfl⟩
  go_simp
 refine sqc ?_;go_simp
 refine cl [] [] M0 (by go_simp) ?_
 rintro r rows ⟨rfl,rfl⟩
 go_simp
 refine cl [] [] M1 (by go_simp) ?_
 rintro r rows ⟨rfl,rfl⟩
 go_simp
 go_bits
 refine cl [] [] M2 (by go_simp) ?_
 rintro r rows ⟨rfl,rfl⟩
 go_simp
 go_bits
 refine cl [] [] M3 (by go_simp) ?_
 rintro r rows ⟨rfl,rfl⟩
 go_simp
 go_bits
 refine cl [] [] M4 (by go_simp) ?_
 rintro r rows ⟨rfl,rfl⟩
 go_simp
 go_bits
 refine cl [] [] M5 (by go_simp) ?_
 rintro r rows ⟨rfl,rfl⟩
 go_simp
 refine lp (α:=Nat × Nat) (fun x=>x.2≤3) (fun z=>⟨[(60,iv z.2),(59,iv 3),(58,.own 58 (nx + 1 + 1 + 1) 3 1),(0,iv m),(5,isl ld),(12,bov false)],[(39,⟨nx,3,1,[iv m,iv x,iv y,iv i,iv r]⟩),(54,⟨nx + 1,3,1,[iv m4,iv (100 + x9),iv (100 + y9),iv (100 + i9),iv (100 + r9)]⟩),(57,⟨nx + 1 + 1,3,1,[iv m5,iv 100,iv 101,iv 102,iv 103]⟩),(58,⟨nx + 1 + 1 + 1,22,1,[.own 39 nx 5 1,.own 54 (nx + 1) 5 1,.own 57 (nx + 1 + 1) 5 1]⟩)],z.1,[],165⟩) (fun x=>3 - x.2) [] [] (nx + 1 + 1 + 1 + 1,0) ?_ ?_
 ·dsimp only
  go_simp
 rintro ⟨v,j⟩ hj
 replace hj:j≤3:=hj
 dsimp only
 rcases (show j=0∨j=1∨j=2∨j=3 by omega) with rfl | rfl | rfl | rfl
 ·obtain ⟨L,T,E,A1,A2,A3,A4⟩:=pair_c m x y i r
  refine gw ?_
  go_simp
  refine rgp [0,1,2,3,4,5,6,7,8,9,10,11,12,13,14,20,15,16,17,18,19,21,22,23] hmx (by kernel_rfl) ?_
  go_simp
  refine cl [] [] A1 (by go_simp) ?_
  rintro r rows ⟨rfl,rfl⟩
  go_simp
  refine ⟨by kernel_rfl,?_⟩
  refine rgp [0,1,2,3,4,5,6,7,8,9,10,11,12,13,14,20,15,16,17,18,19,21,22,23] hmx (by kernel_rfl) ?_
  go_simp
  refine cl [] [] A2 (by go_simp) ?_
  rintro r rows ⟨rfl,rfl⟩
  go_simp
  refine ⟨by kernel_rfl,?_⟩
  refine cl [] [] A3 (by go_simp) ?_
  rintro r rows ⟨rfl,rfl⟩
  go_simp
  refine cl [] [] A4 (by go_simp) ?_
  rintro r rows ⟨rfl,rfl⟩
  go_simp
  exact ⟨_,1,by omega,by omega,Nat.le_refl _,rfl⟩
 ·obtain ⟨L,T,E,A1,A2,A3,A4⟩:=pair_c m4 (100 + x9) (100 + y9) (100 + i9) (100 + r9)
  refine gw ?_
  go_simp
  refine rgp [0,1,2,3,4,5,6,7,8,9,10,11,12,13,14,20,15,16,17,18,19,21,22,23] hmx (by kernel_rfl) ?_
  go_simp
  refine cl [] [] A1 (by go_simp) ?_
  rintro r rows ⟨rfl,rfl⟩
  go_simp
  refine ⟨by kernel_rfl,?_⟩
  refine rgp [0,1,2,3,4,5,6,7,8,9,10,11,12,13,14,20,15,16,17,18,19,21,22,23] hmx (by kernel_rfl) ?_
  go_simp
  refine cl [] [] A2 (by go_simp) ?_
  rintro r rows ⟨rfl,rfl⟩
  go_simp
  refine ⟨by kernel_rfl,?_⟩
  refine cl [] [] A3 (by go_simp) ?_
  rintro r rows ⟨rfl,rfl⟩
  go_simp
  refine cl [] [] A4 (by go_simp) ?_
  rintro r rows ⟨rfl,rfl⟩
  go_simp
  exact ⟨_,2,by omega,by omega,Nat.le_refl _,rfl⟩
 ·obtain ⟨L,T,E,A1,A2,A3,A4⟩:=pair_c m5 100 101 102 103
  refine gw ?_
  go_simp
  refine rgp [0,1,2,3,4,5,6,7,8,9,10,11,12,13,14,20,15,16,17,18,19,21,22,23] hmx (by kernel_rfl) ?_
  go_simp
  refine cl [] [] A1 (by go_simp) ?_
  rintro r rows ⟨rfl,rfl⟩
  go_simp
  refine ⟨by kernel_rfl,?_⟩
  refine rgp [0,1,2,3,4,5,6,7,8,9,10,11,12,13,14,20,15,16,17,18,19,21,22,23] hmx (by kernel_rfl) ?_
  go_simp
  refine cl [] [] A2 (by go_simp) ?_
  rintro r rows ⟨rfl,rfl⟩
  go_simp
  refine ⟨by kernel_rfl,?_⟩
  refine cl [] [] A3 (by go_simp) ?_
  rintro r rows ⟨rfl,rfl⟩
  go_simp
  refine cl [] [] A4 (by go_simp) ?_
  rintro r rows ⟨rfl,rfl⟩
  go_simp
  exact ⟨_,3,by omega,by omega,Nat.le_refl _,rfl⟩
 clear M0 M1 M2 M3 M4 b0 b0' b1 b1' b2 b2' b3 b3' b4 b4'
 refine gw ?_
 go_simp
 refine sqc ?_;go_simp
 refine sqc ?_;go_simp
 refine lp (α:=Nat × Nat × Nat) (fun z=>z.2.1≤ld.length) (fun z=>⟨[(120,isl ld),(121,iv ld.length),(122,iv z.2.1),(21,.own 900 z.2.2 z.2.1 1),(0,iv m),(5,isl ld),(12,bov false)],[(900,⟨z.2.2,3,1,(sm ld z.2.1).map iv⟩)],z.1,[],165⟩) (fun z=>ld.length - z.2.1) [(21,900,3,1)] [(21,900,3,1)] (v + 1,0,v) ?_ ?_
 ·dsimp only
  go_simp
  simp [sm_zero]
 rintro ⟨v,j,u⟩ hj
 replace hj:j≤ld.length:=hj
 dsimp only
 refine gw ?_
 go_simp
 refine ifd (fun h=>?_) (fun h=>?_) <;> go_simp
 ·have hji:j < ld.length:=by omega
  have MQ:=mod_c XE ld[j] 4 (by omega) (by omega)
  obtain ⟨c0,c1⟩:=mod_bd ld[j] 4 (by omega)
  have HT:=Lib.hid (sm_succ ld j hji)
  have HN:=Lib.hid (sm_len ld j hj)
  generalize sm ld j=cs at *
  generalize ld[j] % 4=q4 at *
  generalize ld[j]=q at *
  go_simp
  refine cl [] [] MQ (by go_simp) ?_
  rintro r rows ⟨rfl,rfl⟩
  go_simp
  refine ⟨⟨HN.out,by rw [show Tryd.t3.bytes=8 from rfl];omega,by omega⟩,?_⟩
  go_bits
  refine ⟨_,j + 1,by omega,by omega,Nat.le_refl _,_,⟨by omega,rfl,rfl⟩,rfl,?_⟩
  rw [HT.out,List.map_append];rfl
 have hj2:j=ld.length:=by omega
 subst hj2
 have hs1:=sm_len ld ld.length (Nat.le_refl _)
 have hs2:=sm_bd ld ld.length
 generalize sm ld ld.length=cs at *
 obtain ⟨k,rfl⟩:∃ k:Nat,m5=k:=⟨m5.toNat,by omega⟩
 have S1:=secret_c k ld (by omega) HB.out
 have S2:=rsecretA_c XE k ld (by omega)
 have S3:=secret_c k cs (by omega) (fun q hq=>by have:=hs2 q hq;omega)
 have S4:=rsecretA_c XE k cs (by omega)
 have HC:=Lib.hid hs1
 clear hs1 hs2 hl HB
 generalize secP k ld=R1 at *
 generalize secP k cs=R2 at *
 refine sqc ?_;go_simp
 refine lp (α:=Nat × Nat) (fun z=>z.2≤2) (fun z=>⟨[(137,iv z.2),(136,iv 2),(135,.own 135 v 2 1),(0,iv m),(12,bov false)],[(900,⟨u,3,1,cs.map iv⟩),(135,⟨v,22,1,[.sl ld.length 1 (ld.map iv),.own 900 u ld.length 1]⟩)],z.1,[],165⟩) (fun z=>2 - z.2) [] [] (v + 1,0) ?_ ?_
 ·dsimp only
  go_simp
 rintro ⟨v',j⟩ hj
 replace hj:j≤2:=hj
 dsimp only
 rcases (show j=0∨j=1∨j=2 by omega) with rfl | rfl | rfl
 ·refine gw ?_
  go_simp
  refine cl [] [] M5 (by go_simp) ?_
  rintro r rows ⟨rfl,rfl⟩
  go_simp
  refine cl [] [] S1 (by go_simp) ?_
  rintro r rows ⟨rfl,rfl⟩
  go_simp
  refine cl [] [] M5 (by go_simp) ?_
  rintro r rows ⟨rfl,rfl⟩
  go_simp
  refine cl [] [] S2 (by go_simp) ?_
  rintro r rows ⟨rfl,rfl⟩
  go_simp
  exact ⟨_,1,by omega,by omega,Nat.le_refl _,rfl⟩
 ·refine gw ?_
  go_simp
  refine cl [] [] M5 (by go_simp) ?_
  rintro r rows ⟨rfl,rfl⟩
  go_simp
  refine cl (C:=fun r rows=>r=.tup [bov R2.1,iv R2.2]∧rows=[]) [900] [] (by simp [arg,cv_iv,frzH,go_sem,lnt];rw [if_pos (by rw [HC.out];exact Nat.le_refl _),List.take_of_length_le (by simp [HC.out])];have h:=S3;unfold isl at h;rw [HC.out] at h;exact h) (by go_simp) ?_
  rintro r rows ⟨rfl,rfl⟩
  go_simp
  refine cl [] [] M5 (by go_simp) ?_
  rintro r rows ⟨rfl,rfl⟩
  go_simp
  refine cl (C:=fun r rows=>r=.tup [bov R2.1,iv R2.2]∧rows=[]) [900] [] (by simp [arg,cv_iv,frzH,go_sem,lnt];rw [if_pos (by rw [HC.out];exact Nat.le_refl _),List.take_of_length_le (by simp [HC.out])];have h:=S4;unfold isl at h;rw [HC.out] at h;exact h) (by go_simp) ?_
  rintro r rows ⟨rfl,rfl⟩
  go_simp
  exact ⟨_,2,by omega,by omega,Nat.le_refl _,rfl⟩
 ·refine gw ?_
  go_simp
  refine gw ?_
  go_simp
  refine cl [] [] awake_c (by go_simp) ?_
  rintro r rows ⟨rfl,rfl⟩
  go_simp
end Go.Proofs.YtkgbjoepjcenlaaDoor
namespace Go.Proofs.YtkgbjoepjcenlaaDoor
open Am Go.RowKit
set_option maxRecDepth 100000
theorem AC.calls {P:Program} {X:Ev} {f:FuncId} {args:List SV} {C:SV→List Row→Prop} {D:Value→Prop} (h:AC P X f args [] fun r rows=>C r rows) (hgo:∀ vals w,(callFunc f vals).run P w=.ok (.enter f vals) w) (hD:∀ (g:Cx) (w:World) (r:SV) (rows:List Row) (v:Value) (nx:Nat),C r rows→holds g w (ren 0 nx r) v→D v) {w:World} {vals:List Value} (hE:X.E w) (ha:agL ⟨fun b=>b < w.heap.size,fun _=>False,fun _=>0,fun _=>0⟩ w args vals):Calls P f vals.toArray w fun e w'=>∃ v,e=.returned v∧D v∧Below w.heap.size w w':=by
 have h1:=h.out ⟨fun b=>b < w.heap.size,fun _=>False,fun _=>0,fun _=>0⟩ w vals 0 hE (fun b hb=>hb) (fun u hu=>hu.elim) (fun u hu=>hu.elim) ha (fun r hr=>by simp at hr) (fun i j r q hi=>by simp at hi)
 rcases h1 with ⟨_,h1⟩ | ⟨v,w',h2,_⟩
 ·refine h1.mono fun e w' ⟨v,r,rows',g',he,hC,hh,_,_,_,_,_,_,hs,hb,ho,_⟩=>⟨v,he,hD _ _ _ _ _ _ hC hh,?_⟩
  exact ⟨ho.1,ho.2.1,ho.2.2,hs,fun k hk=>hb k hk (fun r hr=>by simp at hr)⟩
 ·rw [hgo] at h2;cases h2
theorem isl_of {w:World} {a:Option Addr} {n c:Nat} {l:List Int} {g:Cx} (hg:∀ b,b < w.heap.size→g.Z b) (hI:Is w a n l) (hc:n≤c):holds g w (isl l) (.slice a n c):=by
 obtain ⟨rfl,h2,h3⟩:=hI
 refine ⟨a,c,rfl,⟨hc,Nat.zero_le _⟩,by simp,?_⟩
 cases l with
 | nil=>exact .inl rfl
 | cons q l=>
   obtain ⟨b,o,rfl,h4,_⟩:=h3 0 (by simp)
   refine .inr ⟨b,o,rfl,hg b (lt_of_cell h4),?_⟩
   refine atL.of (vs:=(q :: l).map fun x=>.int .i64 x) ?_ fun i x hx=>?_
   ·have:=agL.ofv (g:=g.pure) (w:=w) ((q :: l).map fun x=>Value.int .i64 x)
    rwa [List.map_map] at this
   ·obtain ⟨hi,rfl⟩:=List.getElem?_eq_some_iff.1 hx
    rw [List.length_map] at hi
    obtain ⟨b',o',e,h5,_⟩:=h3 i hi
    cases e
    rw [h5,List.getElem_map,List.getD_eq_getElem?_getD,List.getElem?_eq_getElem hi,Option.getD_some]
theorem exchanges_any (m x y i r:Int) (a:Option Addr) (n c:Nat) (l:List Int) (w:World) (hI:Is w a n l) (hc:n≤c) (hE:Env w):Calls Tryd.prog 6 #[.int .i64 m,.int .i64 x,.int .i64 y,.int .i64 i,.int .i64 r,.slice a n c] w fun e w'=>e=.returned (.bool true)∧Below w.heap.size w w':=by
 refine (AC.calls (D:=fun v=>v=.bool true) (exchanges_law m x y i r l (fun q hq=>?_) (by rw [hI.1];exact hI.2.1)) Tryd.call6 ?_ hE (vals:=[.int .i64 m,.int .i64 x,.int .i64 y,.int .i64 i,.int .i64 r,.slice a n c]) ⟨rfl,rfl,rfl,rfl,rfl,isl_of (fun b hb=>hb) hI hc,trivial⟩).mono ?_
 ·obtain ⟨j,hj,rfl⟩:=List.getElem_of_mem hq
  obtain ⟨_,_,_,_,h⟩:=hI.2.2 j (by rw [← hI.1];exact hj)
  simpa [hj] using h
 ·rintro g w r rows v nx ⟨rfl,rfl⟩ hv
  exact hv
 ·rintro e w' ⟨v,he,rfl,hB⟩
  exact ⟨he,hB⟩
end Go.Proofs.YtkgbjoepjcenlaaDoor
