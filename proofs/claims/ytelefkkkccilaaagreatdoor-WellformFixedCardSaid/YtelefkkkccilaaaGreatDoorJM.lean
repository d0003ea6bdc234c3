import Derived.Test.YtelefkkkccilaaaGreatDoorXn
import Derived.Test.YtelefkkkccilaaaGreatDoorLB9
set_option linter.unusedVariables false
set_option linter.unusedSimpArgs false
set_option linter.all false
namespace Go.Proofs.YtelefkkkccilaaaGreatDoor
open Go.RowKit
set_option maxRecDepth 100000
def SpP (n:Nat) (w:World) (e:Ending) (w':World):Prop:=∃ (l':List UInt8) (a:Option Addr) (c:Nat),e=.returned (.slice a l'.length c)∧BR (fun q=>w.heap.size≤q) w' a l'.length l'∧l'.length≤c∧c≤9223372036854775807∧l'.length≤n + 1∧Below w.heap.size w w'
theorem SpP.of {n:Nat} {w W:World} {a:Option Addr} {m c:Nat} {l':List UInt8} (h:OwnB W w.heap.size (.slice a m c) l') (hb:Below w.heap.size w W) (hl:l'.length≤n + 1):SpP n w (.returned (.slice a m c)) W:=by
 obtain ⟨a',c',e,h1,h2,h3⟩:=h.br;cases e
 exact ⟨l',a,c,rfl,h1,h2,h3,hl,hb⟩
theorem OwnB.cut {w:World} {base g n cap:Nat} {l:List UInt8} (h:OwnB w base (.slice (some ⟨g,0,none⟩) n cap) l) {k:Nat} (hk:k≤n):OwnB w base (.slice (some ⟨g,0,none⟩) k cap) (l.take k):=by
 have hl:=h.1;obtain ⟨a',c',e,_⟩:=h.br;have hnl:n=l.length:=by cases e;rfl
 rcases h.2 with ⟨e,_⟩ | ⟨g',cap',cur,e,hb,hh,hn,hc,hs,ht⟩
 ·cases e
 ·cases e
  refine ⟨by simp,.inr ⟨g,cap,cur,by rw [List.length_take,Nat.min_eq_left (by omega)],hb,hh,by rw [List.length_take];omega,hc,hs,?_⟩⟩;rw [List.length_take,Nat.min_eq_left (by omega)];have:=congrArg (List.take k) ht;simp only [List.take_take,List.map_take,Nat.mul_one] at this ⊢;rw [Nat.min_eq_left (by omega)] at this;exact this
theorem OwnB.set {w:World} {base g n cap k:Nat} {l:List UInt8} (h:OwnB w base (.slice (some ⟨g,0,none⟩) n cap) l) (hk:k < n) (cb:UInt8):OwnB (w.setCell ⟨g,k,none⟩ (bv cb)) base (.slice (some ⟨g,0,none⟩) n cap) (l.set k cb):=by
 have hl:=h.1;obtain ⟨a',c',e,_⟩:=h.br;have hnl:n=l.length:=by cases e;rfl
 rcases h.2 with ⟨e,_⟩ | ⟨g',cap',cur,e,hb,hh,hn,hc,hs,ht⟩
 ·cases e
 ·cases e
  refine ⟨by simp,.inr ⟨g,cap,_,by rw [List.length_set],hb,sar hh k (bv cb),by simpa using hn,hc,by simpa using hs,?_⟩⟩;have h1:=congrArg (fun x=>List.set x k (bv cb)) ht;simp only [List.length_set,Nat.mul_one,List.map_set] at h1 ⊢;rw [← h1,Array.toList_setIfInBounds,List.take_set]
theorem BR.tail {ok:Nat→Prop} {w:World} {b n:Nat} {l:List UInt8} (h:BR ok w (some ⟨b,0,none⟩) n l) {k:Nat} (hk:k≤n):BR ok w (some ⟨b,k,none⟩) (n - k) (l.drop k):=by
 obtain ⟨h1,h2,h3⟩:=h;refine ⟨by rw [List.length_drop];omega,by omega,fun i hi=>?_⟩;obtain ⟨b',o',e,hb,hc⟩:=h3 (k + i) (by rw [List.length_drop] at hi;omega);cases e
 refine ⟨b,k,rfl,hb,?_⟩;rw [List.getElem_drop];rw [Nat.zero_add] at hc;exact hc
theorem BR.of_own {w:World} {base n c:Nat} {a:Option Addr} {l:List UInt8} (h:OwnB w base (.slice a n c) l) (hn:n=l.length):BR (fun q=>base≤q) w a n l:=by
 obtain ⟨a',c',e,h1,h2,h3⟩:=h.br;cases e
 exact h1
theorem u8_wrap (q:Int):∃ cb:UInt8,IntKind.u8.wrap q=(cb.toNat:Int):=by
 refine ⟨UInt8.ofNat (q % 256).toNat,?_⟩
 show q % 256=_
 have h1:=Int.emod_nonneg q (show (256:Int)≠0 by decide);have h2:=Int.emod_lt_of_pos q (show (0:Int) < 256 by decide);rw [UInt8.toNat_ofNat'];omega
set_option maxHeartbeats 8000000 in
theorem spoilt_any (l:List UInt8) (a:Option Addr) (n c:Nat) (w:World) (ok:Nat→Prop) (p q:Int) (hR:BR ok w a n l) (hl:n≤100000) (hq0: -9223372036854775808≤q) (hq1:q≤9223372036854775807):
 Calls Tryz.prog 54 #[.slice a n c,.int .i64 p,.int .i64 q] w (SpP n w):=by
 have hln:=hR.1;obtain ⟨a1,c1,W1,hrun,hO,hg,hx⟩:=app_bytes w w.heap.size (.slice none 0 0) [] (OwnB.nil _ _) a n c l ok hR (by simp;omega) (Nat.le_refl _);rw [List.nil_append] at hO;rw [List.length_nil,Nat.zero_add] at hrun hO;have HB1:=dh (bg (Below.refl w.heap.size w) (Nat.le_refl _) (OwnB.nil w w.heap.size) hg);have HO:=dh hO;have HR:=dh hrun;obtain ⟨cb,hcb⟩:=u8_wrap q;have HLN:=dh hln;clear hrun hO hg hx hR hln;go_enter Tryz.func54,Tryz.ntmps54
 rcases Nat.eq_zero_or_pos n with h0 | h0
 ·have h0b:((n:Int)==0)=true:=by simpa using h0
  subst h0;have P2:=al W1 (.cells #[.int .u8 (cb.toNat:Int)] 5);have N2:=aw W1 (.cells #[.int .u8 (cb.toNat:Int)] 5);have hs:=HB1.out.size;have HO2:Hid (OwnB (W1.alloc (.cells #[.int .u8 (cb.toNat:Int)] 5)) w.heap.size (.slice (some ⟨W1.heap.size,0,none⟩) 1 1) [cb]):=dh (own_lits [cb] W1.heap.size (by simp) N2 w.heap.size hs);have HB2:=dh (HB1.out.trans (P2.mono hs));clear P2 N2 hs;go_wp2_with (at_builtin;refine wj rfl _ _ 23 rfl rfl rfl HR.out ?_;clear HR)
  go_ret
  exact SpP.of (n:=0) HO2.out HB2.out (by simp)
 ·have h0b:((n:Int)==0)=false:=by simp;omega
  have h0z:¬ (n:Int)=0:=by omega
  have hform:∃ g,a1=some ⟨g,0,none⟩∧w.heap.size≤g:=by
   rcases HO.out.2 with ⟨e,h⟩ | ⟨g,cap,cur,e,hb,_⟩
   ·have:=HLN.out;omega
   ·cases e;exact ⟨g,rfl,hb⟩
  obtain ⟨g,rfl,hgb⟩:=hform;have hgl:=(olt HO.out rfl).1;have HG:=dh (And.intro hgb hgl);clear hgb hgl;obtain ⟨k,hk⟩:∃ k:Nat,p % (n:Int)=(k:Int):=⟨(p % (n:Int)).toNat,by have:=Int.emod_nonneg p (show (n:Int)≠0 by omega);omega⟩;have hkn:k < n:=by have:=Int.emod_lt_of_pos p (show (0:Int) < (n:Int) by omega);omega
  have HC1:Hid (Calls Tryz.prog 35 #[.int .i64 p,.int .i64 (n:Int)] W1 fun e w'=>e=.returned (.int .i64 (k:Int))∧W1=w'):=dh (by rw [← hk];exact mod_any p n W1 (by omega) (by omega));clear hk;go_wp2_with (at_builtin;refine wj rfl _ _ 23 rfl rfl rfl HR.out ?_;clear HR)
  refine HC1.out.mono ?_;rintro e w2 ⟨rfl,rfl⟩;clear HC1;go_wp2_with fail
  refine (mod_any (q.tdiv 256) 4 W1 (by omega) (by omega)).mono ?_;rintro e w2 ⟨rfl,rfl⟩;have hm0:=Int.emod_nonneg (q.tdiv 256) (show (4:Int)≠0 by decide);have hm4:=Int.emod_lt_of_pos (q.tdiv 256) (show (0:Int) < 4 by decide);generalize q.tdiv 256 % 4=m at *;have hBRO:BR (fun q=>w.heap.size≤q) W1 (some ⟨g,0,none⟩) n l:=by
   obtain ⟨a',c',e,h1,h2,h3⟩:=HO.out.br;cases e
   exact h1
  have hcap:n≤c1∧c1≤9223372036854775807:=by
   obtain ⟨a',c',e,h1,h2,h3⟩:=HO.out.br;cases e
   exact ⟨h2,h3⟩
  have HBRO:=dh hBRO;have hcap1:=hcap.1;have hcap2:=hcap.2;clear hBRO hcap;rcases (show m=0∨m=1∨m=2∨m=3 by omega) with rfl | rfl | rfl | rfl
  ·have hcell:W1.cell? ⟨g,k,none⟩=some (.int .u8 ((l[k]'(by have:=HLN.out;omega)).toNat:Int)):=by
    obtain ⟨b',o',e,_,hc⟩:=HBRO.out.2.2 k (by have:=HLN.out;omega);cases e
    rw [Nat.zero_add] at hc;exact hc
   have hfro:W1.frozen? ⟨g,k,none⟩=false:=by
    obtain ⟨_,_,cur,hh⟩:=olt HO.out rfl;exact frozen_of_arr hh k
   have HO9:=dh (HO.out.set hkn cb);have HB9:Hid (Below w.heap.size w (W1.setCell ⟨g,k,none⟩ (.int .u8 (cb.toNat:Int)))):=dh (HB1.out.setCell (p:=⟨g,k,none⟩) HG.out.1 _);go_wp2_with fail
   go_ret
   exact SpP.of HO9.out HB9.out (by have:=HLN.out;simp;omega)
  ·obtain ⟨k1,hk1⟩:∃ k1:Nat,k1=k + 1:=⟨_,rfl⟩
   have hwk:IntKind.i64.wrap ((k:Int) + 1)=(k1:Int):=by rw [IntWalk.i64_in _ (by omega)];omega
   have hk1n:k1≤n:=by omega
   have hkc:k≤c1:=by omega
   have hk1c:k1≤c1:=by omega
   have HK1:=dh hk1;clear hk1;by_cases hq:c1=k1
   ·subst hq
    have hnk:n - c1=0:=by omega
    obtain ⟨a2,c2,W2,hrun2,hO2,hg2,hx2⟩:=app_bytes W1.drew w.heap.size (.slice (some ⟨g,0,none⟩) k c1) (l.take k) ((HO.out.pure (Below.refl _ _).drew).cut (by omega)) (some ⟨g,0,none⟩) 0 0 [] (fun _=>True) (BR.nil _ _ _) (by simp;omega) (by have:=HB1.out.size;exact this);have hlk:(l.take k).length=k:=by have:=HLN.out;rw [List.length_take];omega
    rw [hlk,Nat.add_zero] at hrun2 hO2;have HR2:=dh hrun2;have HB2:=dh (below_grownD (W:=W1) HB1.out (Nat.le_refl _) ((HO.out.cut (k:=k) (by omega))) (Nat.le_refl _) hg2);have HO2:=dh hO2;clear hrun2 hO2 hg2 hx2 hlk;go_upto_region 10 with fail
    refine wp_region_held_drew (S:=(fun _=>True)) (by kernel_rfl) trivial (fun hHeld=>?_);refine tk 0 rfl hHeld ?_;simp only [Act.put,sx]
    refine tk 1 rfl hHeld ?_;simp only [Act.put,sx]
    refine tk 2 rfl hHeld ?_;simp only [Act.put,sx]
    refine tk 3 rfl hHeld ?_;simp only [Act.put,sx]
    refine tk 4 rfl hHeld ?_;simp only [Act.put,sx]
    refine tk 5 rfl hHeld ?_;simp only [Act.put,sx]
    refine tk 6 rfl hHeld ?_;simp only [Act.put,sx]
    refine ry 7 (by kernel_rfl) rfl fun K1 hK1=>?_
    rw [if_pos (by rfl)];refine wp_app _ _ 23 rfl rfl rfl HR2.out ?_;clear HR2;refine hK1.out _ _ trivial (fun hHeld=>?_);clear hK1
    try simp only [sz]
    refine tk 8 rfl hHeld ?_;simp only [Act.put,sx]
    refine wpAnyH_done (by kernel_rfl) ?_ _
    try simp only [sz]
    go_wp2_with fail
    go_ret
    exact SpP.of HO2.out HB2.out (by have:=HLN.out;have:=HK1.out;simp;omega)
   ·have hnq:¬ c1=k1:=hq
    obtain ⟨a2,c2,W2,hrun2,hO2,hg2,hx2⟩:=app_bytes W1.drew w.heap.size (.slice (some ⟨g,0,none⟩) k c1) (l.take k) ((HO.out.pure (Below.refl _ _).drew).cut (by omega)) (some ⟨g,k1,none⟩) (n - k1) (c1 - k1) (l.drop k1) (fun q=>w.heap.size≤q) ((HBRO.out.below (Below.refl _ _).drew).tail hk1n) (by simp;omega) (by have:=HB1.out.size;exact this);have hlk:(l.take k).length=k:=by have:=HLN.out;rw [List.length_take];omega
    rw [hlk] at hrun2 hO2;have HR2:=dh hrun2;have HB2:=dh (below_grownD (W:=W1) HB1.out (Nat.le_refl _) ((HO.out.cut (k:=k) (by omega))) (Nat.le_refl _) hg2);have HO2:=dh hO2;clear hrun2 hO2 hg2 hx2 hlk;go_upto_region 10 with fail
    refine wp_region_held_drew (S:=(fun _=>True)) (by kernel_rfl) trivial (fun hHeld=>?_);refine tk 0 rfl hHeld ?_;simp only [Act.put,sx]
    refine tk 1 rfl hHeld ?_;simp only [Act.put,sx]
    refine tk 2 rfl hHeld ?_;simp only [Act.put,sx]
    refine tk 3 rfl hHeld ?_;simp only [Act.put,sx]
    refine tk 4 rfl hHeld ?_;simp only [Act.put,sx]
    refine tk 5 rfl hHeld ?_;simp only [Act.put,sx]
    refine tk 6 rfl hHeld ?_;simp only [Act.put,sx]
    refine ry 7 (by kernel_rfl) rfl fun K1 hK1=>?_
    rw [if_pos (by rfl)];refine wp_app _ _ 23 rfl rfl rfl HR2.out ?_;clear HR2;refine hK1.out _ _ trivial (fun hHeld=>?_);clear hK1
    try simp only [sz]
    refine tk 8 rfl hHeld ?_;simp only [Act.put,sx]
    refine wpAnyH_done (by kernel_rfl) ?_ _
    try simp only [sz]
    go_wp2_with fail
    go_ret
    exact SpP.of HO2.out HB2.out (by have:=HLN.out;have:=HK1.out;simp;omega)
  ·have hkc:k≤c1:=by omega
   have hqc:¬ c1=k:=by omega
   have hkn2:k≤n:=by omega
   have HBD:Hid (Below W1.heap.size W1 W1.drew):=dh (Below.refl _ _).drew;go_upto_region 12 with fail
   refine wp_region_held_drew (S:=(fun _=>True)) (by kernel_rfl) trivial (fun hHeld=>?_);refine tk 0 rfl hHeld ?_;simp only [Act.put,sx]
   refine tk 1 rfl hHeld ?_;simp only [Act.put,sx]
   refine tk 2 rfl hHeld ?_;simp only [Act.put,sx]
   refine tk 4 rfl hHeld ?_;simp only [Act.put,sx]
   refine tk 5 rfl hHeld ?_;simp only [Act.put,sx]
   refine tk 8 rfl hHeld ?_;simp only [Act.put,sx]
   refine tk 9 rfl hHeld ?_;simp only [Act.put,sx]
   refine tk 10 rfl hHeld ?_;simp only [Act.put,sx]
   refine wpAnyH_ready (rs:=[3,6]) (by kernel_rfl) (by simp) ?_;refine AllReadyH.cons rfl (fun K1 hK1=>?_) (AllReadyH.cons rfl (fun K1 hK1=>?_) AllReadyH.nil)
   ·rw [if_pos (by rfl)]
    obtain ⟨a3,c3,W3,hrun3,hO3,hg3,hx3⟩:=app_bytes W1.drew W1.heap.size (.slice none 0 0) [] (OwnB.nil _ _) (some ⟨g,0,none⟩) k c1 (l.take k) (fun _=>True) (BR.imp (BR.of_own ((HO.out.pure HBD.out).cut (k:=k) (by omega)) (by have:=HLN.out;rw [List.length_take];omega)) fun _ _ _=>trivial) (by simp;omega) HBD.out.size;rw [List.nil_append] at hO3;rw [List.length_nil,Nat.zero_add] at hrun3 hO3;have HB3:=dh (show Below W1.heap.size W1 W3 from bg HBD.out HBD.out.size (OwnB.nil W1.drew W1.heap.size) hg3);have HO3:=dh hO3;refine wp_app _ _ 23 rfl rfl rfl hrun3 ?_;clear hrun3 hO3 hx3;clear hg3;refine hK1.out _ _ trivial (fun hHeld=>?_);clear hK1
    try simp only [sz]
    refine ry 6 (by kernel_rfl) rfl fun K1 hK1=>?_
    go_simp
    have P6:=al W3 (.cells #[.int .u8 (cb.toNat:Int)] 5);have N6:=aw W3 (.cells #[.int .u8 (cb.toNat:Int)] 5);obtain ⟨W6,hW6⟩:∃ W6,W6=W3.alloc (.cells #[.int .u8 (cb.toNat:Int)] 5):=⟨_,rfl⟩;rw [← hW6] at P6 N6;have HB6:=dh (show Below W1.heap.size W1 W6 from HB3.out.trans (P6.mono HB3.out.size));have HL6:=dh N6;have HO6:=dh (HO3.out.pure P6);have HLT:=HL6;rw [← hW6];clear P6 N6 hW6;refine hK1.out _ _ trivial (fun hHeld=>?_);clear hK1
    try simp only [sz]
    refine ry 7 (by kernel_rfl) rfl fun K1 hK1=>?_
    rw [if_pos (by rfl)];obtain ⟨a7,c7,W7,hrun7,hO7,hg7,hx7⟩:=app_bytes W6 W1.heap.size (.slice a3 k c3) (l.take k) HO6.out (some ⟨W3.heap.size,0,none⟩) 1 1 [cb] (fun _=>True) (BR.of_own (base:=0) (own_lits [cb] _ (by simp) HLT.out 0 (Nat.zero_le _)) rfl |>.imp fun _ _ _=>trivial) (by simp;omega) HB6.out.size;have hlk:(l.take k).length=k:=by have:=HLN.out;rw [List.length_take];omega
    rw [hlk] at hrun7 hO7;have HB7:=dh (show Below W1.heap.size W1 W7 from bg HB6.out HB6.out.size HO6.out hg7);have HO7:=dh hO7;refine wp_app _ _ 23 rfl rfl rfl hrun7 ?_;clear hrun7 hO7 hg7 hx7 hlk;refine hK1.out _ _ trivial (fun hHeld=>?_);clear hK1
    try simp only [sz]
    refine ry 11 (by kernel_rfl) rfl fun K1 hK1=>?_
    rw [if_pos (by rfl)];obtain ⟨a9,c9,W9,hrun9,hO9,hg9,hx9⟩:=app_bytes W7 W1.heap.size (.slice a7 (k + 1) c7) (l.take k ++ [cb]) HO7.out (some ⟨g,k,none⟩) (n - k) (c1 - k) (l.drop k) (fun q=>w.heap.size≤q) ((HBRO.out.below HB7.out).tail (by omega)) (by simp;omega) HB7.out.size;have hlk:(l.take k ++ [cb]).length=k + 1:=by have:=HLN.out;simp;omega
    rw [hlk] at hrun9 hO9;have HB9:=dh (show Below W1.heap.size W1 W9 from bg HB7.out HB7.out.size HO7.out hg9);have HO9:=dh hO9;refine wp_app _ _ 23 rfl rfl rfl hrun9 ?_;clear hrun9 hO9 hg9 hx9 hlk;refine hK1.out _ _ trivial (fun hHeld=>?_);clear hK1
    try simp only [sz]
    refine tk 12 rfl hHeld ?_;simp only [Act.put,sx]
    refine wpAnyH_done (by kernel_rfl) ?_ _
    try simp only [sz]
    go_wp2_with fail
    go_ret
    exact SpP.of (HO9.out.lower HB1.out.size) (HB1.out.trans (HB9.out.mono HB1.out.size)) (by have:=HLN.out;simp;omega)
   ·go_simp
    have P6:Below W1.heap.size W1 (W1.alloc (.cells #[.int .u8 (cb.toNat:Int)] 5)).drew:=(al W1 (.cells #[.int .u8 (cb.toNat:Int)] 5)).drew;have N6:(W1.alloc (.cells #[.int .u8 (cb.toNat:Int)] 5)).drew.heap[W1.heap.size]?=_:=aw W1 (.cells #[.int .u8 (cb.toNat:Int)] 5);generalize (W1.alloc (.cells #[.int .u8 (cb.toNat:Int)] 5)).drew=W6 at *;have HB6:=dh P6;have HL6:=dh N6;clear P6 N6;refine hK1.out _ _ trivial (fun hHeld=>?_);clear hK1
    try simp only [sz]
    refine ry 3 (by kernel_rfl) rfl fun K1 hK1=>?_
    rw [if_pos (by rfl)];obtain ⟨a3,c3,W3,hrun3,hO3,hg3,hx3⟩:=app_bytes W6 W1.heap.size (.slice none 0 0) [] (OwnB.nil _ _) (some ⟨g,0,none⟩) k c1 (l.take k) (fun _=>True) (BR.imp (BR.of_own ((HO.out.pure HB6.out).cut (k:=k) (by omega)) (by have:=HLN.out;rw [List.length_take];omega)) fun _ _ _=>trivial) (by simp;omega) HB6.out.size;rw [List.nil_append] at hO3;rw [List.length_nil,Nat.zero_add] at hrun3 hO3;have HB3:=dh (show Below W1.heap.size W1 W3 from bg HB6.out HB6.out.size (OwnB.nil W6 W1.heap.size) hg3);have HO3:=dh hO3;refine wp_app _ _ 23 rfl rfl rfl hrun3 ?_;clear hrun3 hO3 hx3;have HLT:=kp (bg (Below.refl W6.heap.size W6) (Nat.le_refl _) (OwnB.nil W6 W6.heap.size) hg3) HL6;clear hg3;refine hK1.out _ _ trivial (fun hHeld=>?_);clear hK1
    try simp only [sz]
    refine ry 7 (by kernel_rfl) rfl fun K1 hK1=>?_
    rw [if_pos (by rfl)];obtain ⟨a7,c7,W7,hrun7,hO7,hg7,hx7⟩:=app_bytes W3 W1.heap.size (.slice a3 k c3) (l.take k) HO3.out (some ⟨W1.heap.size,0,none⟩) 1 1 [cb] (fun _=>True) (BR.of_own (base:=0) (own_lits [cb] _ (by simp) HLT.out 0 (Nat.zero_le _)) rfl |>.imp fun _ _ _=>trivial) (by simp;omega) HB3.out.size;have hlk:(l.take k).length=k:=by have:=HLN.out;rw [List.length_take];omega
    rw [hlk] at hrun7 hO7;have HB7:=dh (show Below W1.heap.size W1 W7 from bg HB3.out HB3.out.size HO3.out hg7);have HO7:=dh hO7;refine wp_app _ _ 23 rfl rfl rfl hrun7 ?_;clear hrun7 hO7 hg7 hx7 hlk;refine hK1.out _ _ trivial (fun hHeld=>?_);clear hK1
    try simp only [sz]
    refine ry 11 (by kernel_rfl) rfl fun K1 hK1=>?_
    rw [if_pos (by rfl)];obtain ⟨a9,c9,W9,hrun9,hO9,hg9,hx9⟩:=app_bytes W7 W1.heap.size (.slice a7 (k + 1) c7) (l.take k ++ [cb]) HO7.out (some ⟨g,k,none⟩) (n - k) (c1 - k) (l.drop k) (fun q=>w.heap.size≤q) ((HBRO.out.below HB7.out).tail (by omega)) (by simp;omega) HB7.out.size;have hlk:(l.take k ++ [cb]).length=k + 1:=by have:=HLN.out;simp;omega
    rw [hlk] at hrun9 hO9;have HB9:=dh (show Below W1.heap.size W1 W9 from bg HB7.out HB7.out.size HO7.out hg9);have HO9:=dh hO9;refine wp_app _ _ 23 rfl rfl rfl hrun9 ?_;clear hrun9 hO9 hg9 hx9 hlk;refine hK1.out _ _ trivial (fun hHeld=>?_);clear hK1
    try simp only [sz]
    refine tk 12 rfl hHeld ?_;simp only [Act.put,sx]
    refine wpAnyH_done (by kernel_rfl) ?_ _
    try simp only [sz]
    go_wp2_with fail
    go_ret
    exact SpP.of (HO9.out.lower HB1.out.size) (HB1.out.trans (HB9.out.mono HB1.out.size)) (by have:=HLN.out;simp;omega)
  ·have hkc:k≤c1:=by omega
   have HO9:=dh (HO.out.cut (k:=k) (by omega));go_wp2_with fail
   go_ret
   exact SpP.of HO9.out HB1.out (by have:=HLN.out;rw [List.length_take];omega)
end Go.Proofs.YtelefkkkccilaaaGreatDoor
